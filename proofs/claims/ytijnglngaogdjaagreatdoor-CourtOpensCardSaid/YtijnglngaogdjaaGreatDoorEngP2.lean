/-
  Operations change places that touch different objects, as it shows when they are carried out.
  Conditions: none; these are definitions and lemmas.
-/
import Derived.Test.YtijnglngaogdjaaGreatDoorEngN
set_option linter.unusedVariables false
set_option linter.unusedSimpArgs false
namespace Go.Proofs.YtijnglngaogdjaaGreatDoor.PI
open Go Go.RowKit
section
variable {P:Program} {il:List Nat} {base:Nat} {w:World} {g:Ghost} {st st':St} {a:Act} {o:Oper} {next:Act→World→Prop} {Q:Exit→Act→World→Prop} {d:D}
theorem ytc{s:Sem Value}(he:execOp a.eval o=(do pure (.value (← s))))(hr:RunsTo P base w g st s d st')
  (hn:∀ v w' g',Go1 base w g st w' g' st'→RepV w' g' st' d v→next (a.put o.dst v) w'):o.wp P a w next Q:=by
 obtain⟨v,w',g',h1,h2,h3⟩:=hr
 unfold Oper.wp
 rw[he]
 simp only[Sem.run_bind,h1,Result.andThen_ok,Sem.run_pure]
 exact hn v w' g' h2 h3
theorem RunsTo.congr{s s':Sem Value}(h:s.run P w=s'.run P w)(hr:RunsTo P base w g st s' d st'):RunsTo P base w g st s d st':=by
 obtain⟨v,w',g',h1,h2,h3⟩:=hr
 exact⟨v,w',g',h.trans h1,h2,h3⟩
theorem yaw{s:Sem Value}{v:Value}(hS:SR base w g st)(he:execOp a.eval o=(do pure (.value (← s))))(h1:s.run P w=.ok v w)(h3:RepV w g st d v)
  (hn:∀ v w' g',Go1 base w g st w' g' st→RepV w' g' st d v→next (a.put o.dst v) w'):o.wp P a w next Q:=
 ytc he (.still hS h1 h3) hn
theorem ywo{pl:Nat→Option (Nat×Nat)}{ρ:PA→D}{ev:Operand→Value}(hev:∀ x pa,trA x=some pa→RepV w g st (ρ pa) (ev x)):∀ {l:List (Nat×Operand)} {ps:List (Nat×Nat×PA)},yvn pl l=some ps→
  ∃ qs:List (Nat×Nat×Nat×D×Value),qs.map (fun p=>(p.2.1,p.2.2.1,p.2.2.2.1))=ps.map (fun p=>(p.1,p.2.1,ρ p.2.2))∧qs.map (fun p=>(p.1,p.2.2.2.2))=l.map (fun p=>(p.1,ev p.2))∧
   (∀ p∈qs,pl p.1=some (p.2.1,p.2.2.1))∧∀ p∈qs,RepV w g st p.2.2.2.1 p.2.2.2.2
 |[],ps,h=>by simp[yvn]at h; subst h; exact⟨[],rfl,rfl,fun p hp=>(by cases hp),fun p hp=>(by cases hp)⟩
 |(i,x)::r,ps,h=>by
  unfold yvn at h
  split at h
  ·rename_i off size pa l h1 h2 h3
   simp only[Ywh]at h; subst h
   obtain⟨qs,e1,e2,e3,e4⟩:=ywo hev h3
   refine⟨(i,off,size,ρ pa,ev x)::qs,by simp[e1],by simp[e2],?_,?_⟩
   ·intro p hp
    rcases List.mem_cons.1 hp with rfl | hp
    ·exact h1
    ·exact e3 p hp
   ·intro p hp
    rcases List.mem_cons.1 hp with rfl | hp
    ·exact hev x pa h2
    ·exact e4 p hp
  ·cases h
theorem ywp{ρ:PA→D}{ev:Operand→Value}(hev:∀ x pa,trA x=some pa→RepV w g st (ρ pa) (ev x)):∀ {k:Nat} {l:List (Nat×Operand)} {ps:List PA},yyv k l=some ps→
  ∃ vs:List Value,l.map (fun p=>(p.1,ev p.2))=(vs.zipIdx k).map (fun x=>(x.2,x.1))∧vs.length=ps.length∧∀ (i:Nat) d v,(ps.map ρ)[i]?=some d→vs[i]?=some v→RepV w g st d v
 |k,[],ps,h=>by simp[yyv]at h; subst h; exact⟨[],rfl,rfl,fun i d v h=>by simp at h⟩
 |k,(i,x)::r,ps,h=>by
  unfold yyv at h
  split at h
  ·rename_i pa l h1 h2
   simp only[Option.ite_none_right_eq_some,Ywh]at h
   obtain⟨rfl,rfl⟩:=h
   obtain⟨vs,e1,e2,e3⟩:=ywp hev h2
   refine⟨ev x::vs,by simp[e1],by simp[e2],?_⟩
   intro j d v hd hv
   cases j with
   |zero=>simp at hd hv; subst hd; subst hv; exact hev x pa h1
   |succ j=>simp at hd hv; exact e3 j d v (by simpa using hd) hv
  ·cases h
theorem yir{ρ:PA→D}{ev:Operand→Value}(hev:∀ x pa,trA x=some pa→RepV w g st (ρ pa) (ev x)):∀ {l:List Operand} {ps:List PA},trAs l=some ps→
  ps.length=l.length∧∀ (i:Nat) d v,(ps.map ρ)[i]?=some d→(l.map ev)[i]?=some v→RepV w g st d v
 |[],ps,h=>by simp[trAs]at h; subst h; exact⟨rfl,fun i d v h=>by simp at h⟩
 |x::r,ps,h=>by
  unfold trAs at h
  split at h
  ·rename_i pa l h1 h2
   simp only[Ywh]at h; subst h
   obtain⟨e2,e3⟩:=yir hev h2
   refine⟨by simp[e2],?_⟩
   intro j d v hd hv
   cases j with
   |zero=>simp at hd hv; subst hd; subst hv; exact hev x pa h1
   |succ j=>simp at hd hv; exact e3 j d v (by simpa using hd) (by simpa using hv)
  ·cases h
theorem Ybw(_hS:SR base w g st){t:TypeId}{zs:List D}{pl:Nat→Option (Nat×Nat)}{l:List (Nat×Operand)}{ps:List (Nat×Nat×PA)}{ρ:PA→D}{ev:Operand→Value}{parts:Array (Nat×Value)}{cs:List D}
  (hev:∀ x pa,trA x=some pa→RepV w g st (ρ pa) (ev x)) (hz:zrOf P t=some (.agg zs)) (hpl:yL6 P t=some pl) (hp:yvn pl l=some ps) (hparts:parts.toList=l.map fun p=>(p.1,ev p.2))
  (h:yar zs (ps.map fun p=>(p.1,p.2.1,ρ p.2.2))=some cs):∃ v,(Instr.build t parts).run P w=.ok v w∧RepV w g st (.agg cs) v:=by
 obtain⟨qs,e1,e2,e3,e4⟩:=ywo hev hp
 unfold zrOf at hz
 split at hz
 case h_2=>cases hz
 rename_i i hi
 split at hz
 case h_2=>cases hz
 rename_i z hzz
 obtain⟨vs,rfl,hl,hr⟩:=yQw (w:=w) (g:=g) (st:=st) hz rfl
 obtain⟨cells',h1,h2,h3⟩:=yJq (place:=pl) qs zs vs.toArray cs (by rw[e1]; exact h) e3 e4 (by simpa using hl) (fun j d v hd hv=>hr j d v hd (by simpa using hv))
 refine⟨.agg cells',?_,?_⟩
 ·refine run_build w t parts cells' ?_
  unfold Program.built
  unfold yL6 at hpl
  rw[hi]
  split at hpl
  ·rename_i n e hu
   split at hpl
   ·rename_i ie hie
    simp only[Ywh]at hpl
    subst hpl
    simp only[hu,hzz,hie,Value.cells]
    rw[hparts,← e2]; exact h1
   ·cases hpl
  ·rename_i fields hu
   split at hpl
   ·rename_i places hpl'
    simp only[Ywh]at hpl
    subst hpl
    simp only[hu,hzz,hpl',Value.cells]
    rw[hparts,← e2]; exact h1
   ·cases hpl
  ·cases hpl
 ·have:=RepV.agg (w:=w) (g:=g) (st:=st) cs cells'.toList (by simpa using h2) (fun i d v hd hv=>h3 i d v hd (by simpa using hv))
  rwa [Array.toArray_toList]at this
theorem Yl9{key off:Nat}{v:Value}(h:RepV w g st (.ptr key off) v):∃ q,v=.pointer (some q):=by cases h; exact⟨_,rfl⟩
theorem Yha{el:D}{off:Nat}{v:Value}(h:RepV w g st (.eptr el off) v):∃ q,v=.pointer (some q):=by cases h; exact⟨_,rfl⟩
theorem Yoy(hS:SR base w g st){f:Nat}{sp:List D→Option D}{ds ys:List D}{vs:List Value}{r:D}(hE:Ywf P f sp)(hi:imms st ds=some ys)(hr:sp ys=some r)(hl:ds.length=vs.length)
  (hrep:∀ (i:Nat) d v,ds[i]?=some d→vs[i]?=some v→RepV w g st d v) (he:execOp a.eval o=callFunc f vs.toArray)
  (hn:∀ v w' g',Go1 base w g st w' g' (if r.noRef then st else lend (ds.flatMap keys) st)→RepV w' g' (if r.noRef then st else lend (ds.flatMap keys) st) r v→next (a.put o.dst v) w'):o.wp P a w next Q:=by
 obtain⟨g1,hgo,_,hyl,hpure,hyr⟩:=ymq hS hi
 obtain⟨v,h1,h2⟩:=hE ys r hr w g1 _ vs (hyl.trans hl) (fun i y v hy hv=>hyr i y v hy (fun d hd=>hrep i d v hd hv))
 unfold Oper.wp
 rw[he,h1]
 by_cases hnr:r.noRef=true
 ·exact hn v w g (by rw[if_pos hnr]; exact Go1.refl hS) (h2 _ _)
 ·exact hn v w g1 (by rw[if_neg hnr]; exact hgo) (h2 _ _)
theorem Yhq{G:Glob}{T:Tbl}(hT:TblOK P G T)(hS:SR base w g st)(hG:GlobOK G w g){f:Nat}{fn:Func}{sp:List D→Option D}{ds ys:List D}{vs:List Value}{r:D}(hfn:P.funcs[f]?=some fn)(hb:fn.body.isSome=true)(hname:(fn.name == "runtime.NumGoroutine")=false)(hf5:f<50000000)
  (hsp:T.p f=some sp) (hi:imms st ds=some ys) (hr:sp ys=some r) (hl:ds.length=vs.length) (hrep:∀ (i:Nat) d v,ds[i]?=some d→vs[i]?=some v→RepV w g st d v)
  (he:execOp a.eval o=callFunc f vs.toArray)
  (hn:∀ v w' g',Go1 base w g st w' g' (if r.noRef then st else lend (ds.flatMap keys) st)→RepV w' g' (if r.noRef then st else lend (ds.flatMap keys) st) r v→next (a.put o.dst v) w'):o.wp P a w next Q:=by
 obtain⟨g1,hgo,_,hyl,hpure,hyr⟩:=ymq hS hi
 have hC:Contract P G f sp:=((hT.p f sp hsp).resolve_right (fun⟨f',e,_⟩=>by omega)).2
 have hc:=hC w g1 ys vs r hr (hG.mono hgo.im) hgo.sr.im (hyl.trans hl) (fun i y v hy hv=>(hyr i y v hy (fun d hd=>hrep i d v hd hv)).purA (ImLe.refl _ _) (hpure y (List.mem_of_getElem? hy))) hpure
 unfold Oper.wp
 rw[he]
 have hrun:(callFunc f vs.toArray).run P w=.ok (.enter f vs.toArray) w:=by
  have hbn:¬ fn.body=none:=by
   intro e; rw[e]at hb; cases hb
  have hn':¬ fn.name= "runtime.NumGoroutine":=by simpa using hname
  simp[callFunc,hfn,hn',hbn]
 rw[hrun,Oper.upon_enter]
 refine hc.mono ?_
 rintro e w' ⟨v,g',rfl,h1,h2,h3,h4,h5,h6⟩
 have hbes:Beside w w':=⟨h6.os,h6.tape,h6.output,h6.size⟩
 by_cases hnr:r.noRef=true
 ·refine hn v w' {g with Im:=g.Im} ?_ (by rw[if_pos hnr]; exact yIm h1 hnr)
  rw[if_pos hnr]
  refine hS.more hbes h6.block (fun _ _ h=>h) (fun _ _ h=>.inl h) (fun b o hb=>?_)
  have:w'.cell? ⟨b,o,none⟩=w.cell? ⟨b,o,none⟩:=by simp only[World.cell?,h6.block b (hS.im_lt hb)]
  rw[this]; exact hS.im b o hb
 ·refine hn v w' {g1 with Im:=g'.Im} ?_ ?_
  ·rw[if_neg hnr]
   exact hgo.trans (hgo.sr.more hbes h6.block (fun b o h=>(h3.im b o h).1) (fun b o h=>h4 b o h) h5)
  ·exact RepV.purR (g:=g') (g':={g1 with Im:=g'.Im}) ⟨fun b o h=>⟨h,rfl⟩,fun _ _ h _=>h⟩ h1 h2
theorem yv7{G:Glob}{f:Nat}{sp:List D→St→Option (D×St)}(hC:IContract P G f sp)(hS:SR base w g st)(hG:GlobOK G w g){ds:List D}{vs:List Value}{r:D}
  (hr:sp ds st=some (r,st')) (hl:ds.length=vs.length) (hrep:∀ (i:Nat) d v,ds[i]?=some d→vs[i]?=some v→RepV w g st d v)
  (he:execOp a.eval o=callFunc f vs.toArray)
  (hn:∀ v w' g',Go1 base w g st w' g' st'→RepV w' g' st' r v→next (a.put o.dst v) w'):o.wp P a w next Q:=by
 obtain⟨⟨fn,hfn,hb,hname⟩,hc⟩:=hC
 unfold Oper.wp
 rw[he]
 have hrun:(callFunc f vs.toArray).run P w=.ok (.enter f vs.toArray) w:=by
  have hbn:¬ fn.body=none:=by
   intro e; rw[e]at hb; cases hb
  have hn':¬ fn.name= "runtime.NumGoroutine":=by simpa using hname
  simp[callFunc,hfn,hn',hbn]
 rw[hrun,Oper.upon_enter]
 refine(hc base w g st st' ds vs r hr hS hG hl hrep).mono ?_
 rintro e w' ⟨v,g',rfl,h1,h2⟩
 exact hn v w' g' h1 h2
theorem yAd{G:Glob}{T:Tbl}(hT:TblOK P G T)(hS:SR base w g st)(hG:GlobOK G w g){f:Nat}{sp:List D→St→Option (D×St)}{ds:List D}{vs:List Value}{r:D}
  (hsp:T.i f=some sp) (hr:sp ds st=some (r,st')) (hl:ds.length=vs.length) (hrep:∀ (i:Nat) d v,ds[i]?=some d→vs[i]?=some v→RepV w g st d v)
  (he:execOp a.eval o=callFunc f vs.toArray)
  (hn:∀ v w' g',Go1 base w g st w' g' st'→RepV w' g' st' r v→next (a.put o.dst v) w'):o.wp P a w next Q:=yv7 (hT.i f sp hsp) hS hG hr hl hrep he hn
theorem yTe{G:Glob}{f:Nat}{sp:List D→St→Option (Nat×D×St)}(hC:yh6 P G f sp)(hS:SR base w g st)(hG:GlobOK G w g){ds:List D}{vs:List Value}{t:Nat}{d:D}
  (hr:sp ds st=some (t,d,st')) (hl:ds.length=vs.length) (hrep:∀ (i:Nat) d v,ds[i]?=some d→vs[i]?=some v→RepV w g st d v)
  (he:execOp a.eval o=callFunc f vs.toArray)
  (hn:∀ w' g',Go1 base w g st w' g' st'→Q (.panic (yh4 t d)) a w'):o.wp P a w next Q:=by
 obtain⟨⟨fn,hfn,hb,hname⟩,hc⟩:=hC
 unfold Oper.wp
 rw[he]
 have hrun:(callFunc f vs.toArray).run P w=.ok (.enter f vs.toArray) w:=by
  have hbn:¬ fn.body=none:=by
   intro e; rw[e]at hb; cases hb
  have hn':¬ fn.name= "runtime.NumGoroutine":=by simpa using hname
  simp[callFunc,hfn,hn',hbn]
 rw[hrun,Oper.upon_enter]
 refine(hc base w g st st' ds vs t d hr hS hG hl hrep).mono ?_
 rintro e w' ⟨g',rfl,h1⟩
 exact hn w' g' h1
theorem Ydu(x:Operand){dst:Option Tmp}{ty:TypeId}{pos:String}{after:Array Edge}{guard:Option (Nat×Bool)}{G:Glob}{T:Tbl}{fr:Frame}{p:POp}(_hT:TblOK P G T)(hS:SR base w g st)(hG:GlobOK G w g)(hF:FR w g st fr a)(ht:trOp P il (.move x)=some p)
  (hx:p.exec T (rho G fr) st=some (d,st')) (hn:∀ v w' g',Go1 base w g st w' g' st'→RepV w' g' st' d v→next (a.put dst v) w'):Oper.wp P {dst:=dst,op:=.move x,type:=ty,pos:=pos,after:=after,guard:=guard} a w next Q:=by
 have hev:∀ x pa,trA x=some pa→RepV w g st (rho G fr pa) (a.eval x):=fun x pa h=>ybf hG hF h
 clear hF
 simp only[trOp,Ywi]at ht
 obtain⟨pa,hpa,rfl⟩:=ht
 simp only[POp.exec,Ywh,Ywj]at hx
 obtain⟨rfl,rfl⟩:=hx
 exact yaw (s:=pure (a.eval x)) hS (by simp[execOp]) rfl (hev x pa hpa) hn
theorem yRe(x:Operand){dst:Option Tmp}{ty:TypeId}{pos:String}{after:Array Edge}{guard:Option (Nat×Bool)}{G:Glob}{T:Tbl}{fr:Frame}{p:POp}(_hT:TblOK P G T)(hS:SR base w g st)(hG:GlobOK G w g)(hF:FR w g st fr a)(ht:trOp P il (.assign x)=some p)
  (hx:p.exec T (rho G fr) st=some (d,st')) (hn:∀ v w' g',Go1 base w g st w' g' st'→RepV w' g' st' d v→next (a.put dst v) w'):Oper.wp P {dst:=dst,op:=.assign x,type:=ty,pos:=pos,after:=after,guard:=guard} a w next Q:=by
 have hev:∀ x pa,trA x=some pa→RepV w g st (rho G fr pa) (a.eval x):=fun x pa h=>ybf hG hF h
 clear hF
 simp only[trOp,Ywi]at ht
 obtain⟨pa,hpa,rfl⟩:=ht
 simp only[POp.exec,Ywh,Ywj]at hx
 obtain⟨rfl,rfl⟩:=hx
 exact yaw (s:=pure (a.eval x)) hS (by simp[execOp]) rfl (hev x pa hpa) hn
theorem Ydt(c x y:Operand){dst:Option Tmp}{ty:TypeId}{pos:String}{after:Array Edge}{guard:Option (Nat×Bool)}{G:Glob}{T:Tbl}{fr:Frame}{p:POp}(_hT:TblOK P G T)(hS:SR base w g st)(hG:GlobOK G w g)(hF:FR w g st fr a)(ht:trOp P il (.pick c x y)=some p)
  (hx:p.exec T (rho G fr) st=some (d,st')) (hn:∀ v w' g',Go1 base w g st w' g' st'→RepV w' g' st' d v→next (a.put dst v) w'):Oper.wp P {dst:=dst,op:=.pick c x y,type:=ty,pos:=pos,after:=after,guard:=guard} a w next Q:=by
 have hev:∀ x pa,trA x=some pa→RepV w g st (rho G fr pa) (a.eval x):=fun x pa h=>ybf hG hF h
 clear hF
 simp only[trOp]at ht
 split at ht
 ·rename_i pc px py h1 h2 h3
  simp only[Ywh]at ht; subst ht
  simp only[POp.exec]at hx
  split at hx
  ·rename_i b hb
   simp only[Ywh,Ywj]at hx
   obtain⟨rfl,rfl⟩:=hx
   have hc:=hev c pc h1
   rw[hb]at hc
   have hc:=yfl hc
   refine yaw (s:=pure (if b then a.eval x else a.eval y)) hS (by simp[execOp,hc,asBool]) rfl ?_ hn
   cases b
   ·exact hev y py h3
   ·exact hev x px h2
  ·cases hx
 ·cases ht
theorem yV0(t:TypeId){dst:Option Tmp}{ty:TypeId}{pos:String}{after:Array Edge}{guard:Option (Nat×Bool)}{G:Glob}{T:Tbl}{fr:Frame}{p:POp}(_hT:TblOK P G T)(hS:SR base w g st)(hG:GlobOK G w g)(hF:FR w g st fr a)(ht:trOp P il (.alloc t)=some p)
  (hx:p.exec T (rho G fr) st=some (d,st')) (hn:∀ v w' g',Go1 base w g st w' g' st'→RepV w' g' st' d v→next (a.put dst v) w'):Oper.wp P {dst:=dst,op:=.alloc t,type:=ty,pos:=pos,after:=after,guard:=guard} a w next Q:=by
 have hev:∀ x pa,trA x=some pa→RepV w g st (rho G fr pa) (a.eval x):=fun x pa h=>ybf hG hF h
 clear hF
 simp only[trOp,Ywi]at ht
 obtain⟨zd,hz,rfl⟩:=ht
 simp only[POp.exec]at hx
 split at hx
 case isFalse=>cases hx
 rename_i hc
 replace hc:zd.cells.all D.isCell=true:=hc
 simp only[Ywh,Ywj]at hx
 obtain⟨rfl,rfl⟩:=hx
 unfold zrOf at hz
 split at hz
 case h_2=>cases hz
 rename_i i hi
 split at hz
 case h_2=>cases hz
 rename_i z hzz
 refine ytc (s:=Instr.alloc t true (.tuple #[])) rfl (RunsTo.congr ?_ (Yb3 (t:=t) hS hc (yjw hz))) hn
 simp[Instr.alloc,zeroValue,typeInfo,hi,hzz]
theorem Ylr(t:TypeId)(x:Operand){dst:Option Tmp}{ty:TypeId}{pos:String}{after:Array Edge}{guard:Option (Nat×Bool)}{G:Glob}{T:Tbl}{fr:Frame}{p:POp}(_hT:TblOK P G T)(hS:SR base w g st)(hG:GlobOK G w g)(hF:FR w g st fr a)(ht:trOp P il (.box t x)=some p)
  (hx:p.exec T (rho G fr) st=some (d,st')) (hn:∀ v w' g',Go1 base w g st w' g' st'→RepV w' g' st' d v→next (a.put dst v) w'):Oper.wp P {dst:=dst,op:=.box t x,type:=ty,pos:=pos,after:=after,guard:=guard} a w next Q:=by
 have hev:∀ x pa,trA x=some pa→RepV w g st (rho G fr pa) (a.eval x):=fun x pa h=>ybf hG hF h
 clear hF
 simp only[trOp,Ywi]at ht
 obtain⟨pa,hpa,rfl⟩:=ht
 simp only[POp.exec]at hx
 split at hx
 case isFalse=>cases hx
 rename_i hc
 simp only[Ywh,Ywj]at hx
 obtain⟨rfl,rfl⟩:=hx
 exact ytc (s:=Instr.box t (a.eval x)) rfl (RunsTo.congr rfl (Yb3 (t:=t) hS hc (hev x pa hpa))) hn
theorem yVy(t:TypeId)(parts:Array (Nat×Operand)){dst:Option Tmp}{ty:TypeId}{pos:String}{after:Array Edge}{guard:Option (Nat×Bool)}{G:Glob}{T:Tbl}{fr:Frame}{p:POp}(_hT:TblOK P G T)(hS:SR base w g st)(hG:GlobOK G w g)(hF:FR w g st fr a)(ht:trOp P il (.build t parts)=some p)
  (hx:p.exec T (rho G fr) st=some (d,st')) (hn:∀ v w' g',Go1 base w g st w' g' st'→RepV w' g' st' d v→next (a.put dst v) w'):Oper.wp P {dst:=dst,op:=.build t parts,type:=ty,pos:=pos,after:=after,guard:=guard} a w next Q:=by
 have hev:∀ x pa,trA x=some pa→RepV w g st (rho G fr pa) (a.eval x):=fun x pa h=>ybf hG hF h
 clear hF
 simp only[trOp]at ht
 split at ht
 case h_2=>cases ht
 rename_i zs pl h1 h2
 simp only[Ywi]at ht
 obtain⟨ps,h3,rfl⟩:=ht
 simp only[POp.exec,Ywi,Ywj]at hx
 obtain⟨cs,h4,rfl,rfl⟩:=hx
 obtain⟨v,h5,h6⟩:=Ybw (P:=P) (parts:=parts.map fun(i,x)=>(i,a.eval x)) hS hev h1 h2 h3 (by simp) h4
 exact yaw hS rfl h5 h6 hn
theorem yqg{t:TypeId}{len:Nat}{parts:Array (Nat×Operand)}{G:Glob}{T:Tbl}{fr:Frame}{p:POp}(hS:SR base w g st)(hG:GlobOK G w g)(hF:FR w g st fr a)(ht:trOp P il (.buildSlice t len parts)=some p)
  (hx:p.exec T (rho G fr) st=some (d,st')):∃ ps,(∀ (dst:Option Tmp) (ty:TypeId) (pos:String) (after:Array Edge) (guard:Option (Nat×Bool)),execOp a.eval {dst:=dst,op:=.buildSlice t len parts,type:=ty,pos:=pos,after:=after,guard:=guard}=(do pure (.value (← Instr.buildSlice t len ps))))∧∃ v w' g',(Instr.buildSlice t len ps).run P w=.ok v w'∧Go1 base w g st w' g' st'∧RepV w' g' st' d v∧Yj3 base w' g' st' v:=by

 have hev:∀ x pa,trA x=some pa→RepV w g st (rho G fr pa) (a.eval x):=fun x pa h=>ybf hG hF h
 clear hF
 simp only[trOp]at ht
 split at ht
 case h_2=>cases ht
 rename_i e hu
 split at ht
 case h_2=>cases ht
 rename_i i hi
 split at ht
 case h_2=>cases ht
 rename_i z l hz hl
 simp only[Option.ite_none_right_eq_some,Ywh]at ht
 obtain⟨hlen,rfl⟩:=ht
 simp only[POp.exec]at hx
 split at hx
 case h_2=>cases hx
 rename_i els hels
 split at hx
 case isFalse=>cases hx
 rename_i hc
 simp only[Ywh,Ywj]at hx
 obtain⟨rfl,rfl⟩:=hx
 simp only[Bool.and_eq_true,decide_eq_true_eq,List.all_eq_true,beq_iff_eq]at hc
 obtain⟨vs,e1,e2,e3⟩:=ywp hev hl
 obtain⟨g1,hgo,_,h1,h2,h3⟩:=ymq hS hels
 have hrep:∀ (i:Nat) d v,els[i]?=some d→vs[i]?=some v→RepV w g1 (lend ((l.map (rho G fr)).flatMap keys) st) d v:=fun i d v hd hv=>h3 i d v hd fun d' hd'=>e3 i d' v hd' hv
 have hlv:els.length=vs.length:=by rw[h1,List.length_map,e2]
 have hpl:(parts.map fun(i,x)=>(i,a.eval x)).toList=(vs.zipIdx 0).map fun x=>(x.2,x.1):=by rw[← e1]; simp
 generalize hps:(parts.map fun(i,x)=>(i,a.eval x))=ps at hpl
 obtain⟨v,w',g',r1,r2,r3,r4⟩:=Ybz (len:=len) (parts:=ps) hgo.sr hu hi hz rfl hc.1.2 h2 hc.1.1 hlv hrep hc.2 (by rw[e2,← hlen]) hpl
 exact⟨ps,fun _ _ _ _ _=>by simp only[execOp,hps],v,w',g',r1,hgo.trans r2,r3,r4⟩
theorem yBr(t:TypeId)(len:Nat)(parts:Array (Nat×Operand)){dst:Option Tmp}{ty:TypeId}{pos:String}{after:Array Edge}{guard:Option (Nat×Bool)}{G:Glob}{T:Tbl}{fr:Frame}{p:POp}(_hT:TblOK P G T)(hS:SR base w g st)(hG:GlobOK G w g)(hF:FR w g st fr a)(ht:trOp P il (.buildSlice t len parts)=some p)
  (hx:p.exec T (rho G fr) st=some (d,st')) (hn:∀ v w' g',Go1 base w g st w' g' st'→RepV w' g' st' d v→next (a.put dst v) w'):Oper.wp P {dst:=dst,op:=.buildSlice t len parts,type:=ty,pos:=pos,after:=after,guard:=guard} a w next Q:=by
 obtain⟨ps,he,v,w',g',r1,r2,r3,_⟩:=yqg hS hG hF ht hx
 exact ytc (s:=Instr.buildSlice t len ps) (he ..) ⟨v,w',g',r1,r2,r3⟩ hn
theorem yLl{t e:TypeId}{len:Nat}{parts:Array (Nat×Operand)}{d1:Nat}{d2:Option Nat}{ty ty2:TypeId}{pos pos2:String}{after after2:Array Edge}{guard guard2:Option (Nat×Bool)}{G:Glob}{T:Tbl}{fr:Frame}{p:POp}{next2:Act→World→Prop}(hS:SR base w g st)(hG:GlobOK G w g)(hF:FR w g st fr a)(ht:trOp P il (.buildSlice t len parts)=some p)
  (hu:P.underlying t=some (.slice e)) (hu8:P.underlying e=some (.int .u8)) (hd1:d1<a.tmps.size)
  (hx:p.exec T (rho G fr) st=some (d,st')) (hn:∀ v w' g',Go1 base w g st w' g' st'→RepV w' g' st' d v→next2 ((a.put (some d1) v).put d2 v) w') :
  Oper.wp P {dst:=some d1,op:=.buildSlice t len parts,type:=ty,pos:=pos,after:=after,guard:=guard} a w (fun a' w'=>Oper.wp P {dst:=d2,op:=.convert t t (.tmp d1),type:=ty2,pos:=pos2,after:=after2,guard:=guard2} a' w' next2 Q) Q:=by
 obtain⟨ps,he,v,w',g',r1,r2,r3,b,n,C,eC,rfl,hb,hbase,hne⟩:=yqg hS hG hF ht hx
 unfold Oper.wp
 rw[he]
 simp only[Sem.run_bind,r1,Result.andThen_ok,Sem.run_pure,Oper.upon_value]
 have hev:(a.put (some d1) (.slice (some ⟨b,0,none⟩) n n)).eval (.tmp d1)=.slice (some ⟨b,0,none⟩) n n:=by
  simp[Act.eval,Act.put,hd1]
 have he2:execOp (a.put (some d1) (.slice (some ⟨b,0,none⟩) n n)).eval {dst:=d2,op:=.convert t t (.tmp d1),type:=ty2,pos:=pos2,after:=after2,guard:=guard2}=(do pure (.value (← convert t t (.slice (some ⟨b,0,none⟩) n n)))):=by
  simp only[execOp,hev]
 rw[he2]
 have hcv:(convert t t (.slice (some ⟨b,0,none⟩) n n)).run P w'=.ok (.slice (some ⟨b,0,none⟩) n n) (w'.freeze ⟨b,C.size,none⟩ 1):=by
  have hsh:w'.shape? b=some (eC,C.size):=by simp[World.shape?,hb]
  simp[convert,run_underlying hu,run_underlying hu8,markStringish,shape,freeze,Sem.run_bind,Sem.run,hsh,Result.andThen]
 simp only[Sem.run_bind,hcv,Result.andThen_ok,Sem.run_pure,Oper.upon_value]
 have hf:=yZp (m:=C.size) r2.sr hb hbase hne
 exact hn _ _ g' (r2.trans hf) (hf.rep r3)
theorem Ydv(t:TypeId)(x:Operand){dst:Option Tmp}{ty:TypeId}{pos:String}{after:Array Edge}{guard:Option (Nat×Bool)}{G:Glob}{T:Tbl}{fr:Frame}{p:POp}(_hT:TblOK P G T)(hS:SR base w g st)(hG:GlobOK G w g)(hF:FR w g st fr a)(ht:trOp P il (.load t x)=some p)
  (hx:p.exec T (rho G fr) st=some (d,st')) (hn:∀ v w' g',Go1 base w g st w' g' st'→RepV w' g' st' d v→next (a.put dst v) w'):Oper.wp P {dst:=dst,op:=.load t x,type:=ty,pos:=pos,after:=after,guard:=guard} a w next Q:=by
 have hev:∀ x pa,trA x=some pa→RepV w g st (rho G fr pa) (a.eval x):=fun x pa h=>ybf hG hF h
 clear hF
 simp only[trOp]at ht
 split at ht
 case h_2=>cases ht
 rename_i pa n ag h1 h2 h3
 simp only[Ywh]at ht; subst ht
 simp only[POp.exec,Ywi,Ywj]at hx
 obtain⟨r,h4,rfl,rfl⟩:=hx
 obtain⟨v,h5,h6⟩:=yIc (P:=P) hS h3 h2 h4 (hev x pa h1)
 exact yaw (s:=Instr.loadAt t (a.eval x)) hS rfl h5 h6 hn
theorem yVu(t:TypeId)(x y:Operand){dst:Option Tmp}{ty:TypeId}{pos:String}{after:Array Edge}{guard:Option (Nat×Bool)}{G:Glob}{T:Tbl}{fr:Frame}{p:POp}(_hT:TblOK P G T)(hS:SR base w g st)(hG:GlobOK G w g)(hF:FR w g st fr a)(ht:trOp P il (.store t x y)=some p)
  (hx:p.exec T (rho G fr) st=some (d,st')) (hn:∀ v w' g',Go1 base w g st w' g' st'→RepV w' g' st' d v→next (a.put dst v) w'):Oper.wp P {dst:=dst,op:=.store t x y,type:=ty,pos:=pos,after:=after,guard:=guard} a w next Q:=by
 have hev:∀ x pa,trA x=some pa→RepV w g st (rho G fr pa) (a.eval x):=fun x pa h=>ybf hG hF h
 clear hF
 simp only[trOp]at ht
 split at ht
 case h_2=>cases ht
 rename_i pa pb n h1 h2 h3
 simp only[Ywh]at ht; subst ht
 simp only[POp.exec,Ywi,Ywj]at hx
 obtain⟨r,h4,rfl,rfl⟩:=hx
 obtain⟨w',g',h5,h6⟩:=yWv (P:=P) hS h3 h4 (hev x pa h1) (hev y pb h2)
 unfold Oper.wp execOp
 simp only[Sem.run_bind,h5,Result.andThen_ok,Sem.run_pure]
 exact hn undef w' g' h6 (.tup [] [] rfl (fun i d v h=>by simp at h))
theorem yHv(x:Operand){dst:Option Tmp}{ty:TypeId}{pos:String}{after:Array Edge}{guard:Option (Nat×Bool)}{G:Glob}{T:Tbl}{fr:Frame}{p:POp}(_hT:TblOK P G T)(hS:SR base w g st)(hG:GlobOK G w g)(hF:FR w g st fr a)(ht:trOp P il (.nilCheck x)=some p)
  (hx:p.exec T (rho G fr) st=some (d,st')) (hn:∀ v w' g',Go1 base w g st w' g' st'→RepV w' g' st' d v→next (a.put dst v) w'):Oper.wp P {dst:=dst,op:=.nilCheck x,type:=ty,pos:=pos,after:=after,guard:=guard} a w next Q:=by
 have hev:∀ x pa,trA x=some pa→RepV w g st (rho G fr pa) (a.eval x):=fun x pa h=>ybf hG hF h
 clear hF
 simp only[trOp,Ywi]at ht
 obtain⟨pa,hpa,rfl⟩:=ht
 have hr:=hev x pa hpa
 simp only[POp.exec]at hx
 have key:∀ q,a.eval x=.pointer (some q)→RepV w g st d (a.eval x)→st'=st→Oper.wp P {dst:=dst,op:=.nilCheck x,type:=ty,pos:=pos,after:=after,guard:=guard} a w next Q:=by
  intro q hq hrd hst
  subst hst
  exact yaw (s:=pure (a.eval x)) hS (by simp[execOp,hq]) rfl hrd hn
 split at hx
 ·rename_i key off hp
  simp only[Ywh,Ywj]at hx
  obtain⟨rfl,rfl⟩:=hx
  rw[hp]at hr
  obtain⟨q,hq⟩:=Yl9 hr
  exact key q hq (hev x pa hpa) rfl
 ·rename_i el off hp
  simp only[Ywh,Ywj]at hx
  obtain⟨rfl,rfl⟩:=hx
  rw[hp]at hr
  obtain⟨q,hq⟩:=Yha hr
  exact key q hq (hev x pa hpa) rfl
 ·rename_i kk tot i off hp
  split at hx
  ·rename_i hl
   simp only[Ywh,Ywj]at hx
   obtain⟨rfl,rfl⟩:=hx
   rw[hp]at hr
   obtain⟨ob,_,_,_,hq⟩:=yFl hl hr
   exact key _ hq (hev x pa hpa) rfl
  ·cases hx
 ·cases hx
theorem yVz(op:BinOp)(t:TypeId)(x y:Operand)(yt:TypeId){dst:Option Tmp}{ty:TypeId}{pos:String}{after:Array Edge}{guard:Option (Nat×Bool)}{G:Glob}{T:Tbl}{fr:Frame}{p:POp}(_hT:TblOK P G T)(hS:SR base w g st)(hG:GlobOK G w g)(hF:FR w g st fr a)(ht:trOp P il (.binOp op t x y yt)=some p)
  (hx:p.exec T (rho G fr) st=some (d,st')) (hn:∀ v w' g',Go1 base w g st w' g' st'→RepV w' g' st' d v→next (a.put dst v) w'):Oper.wp P {dst:=dst,op:=.binOp op t x y yt,type:=ty,pos:=pos,after:=after,guard:=guard} a w next Q:=by
 have hev:∀ x pa,trA x=some pa→RepV w g st (rho G fr pa) (a.eval x):=fun x pa h=>ybf hG hF h
 clear hF
 simp only[trOp]at ht
 split at ht
 case h_2=>cases ht
 rename_i pa pb h1 h2
 have hbin:∀ op,p=.bin op pa pb→Oper.wp P {dst:=dst,op:=.binOp op t x y yt,type:=ty,pos:=pos,after:=after,guard:=guard} a w next Q:=by
  rintro op rfl
  simp only[POp.exec,Ywi,Ywj]at hx
  obtain⟨r,h4,rfl,rfl⟩:=hx
  obtain⟨⟨v,h5,h6⟩,h7,h8⟩:=Yew (P:=P) op t _ _ r _ _ h4 (hev x pa h1) (hev y pb h2)
  refine yaw (s:=do eqGuard op t x y (a.eval x) (a.eval y); binOp op t (a.eval x) (a.eval y)) hS rfl ?_ h6 hn
  simp only[Sem.run_bind,yp6 op t x y _ _ h7 h8,Result.andThen_ok,h5]
 have heq:∀ neg:Bool,(match P.underlying t with
  |some (.int _) | some .string=>some (POp.bin (if neg then .neq else .eql) pa pb)
  |some .bool=>some (.beq neg pa pb)
  |some (.struct _) | some (.array _ _)=>match ynx P 100 t with
   |some ks=>if P.eqGuardType P.depth t then none else some (.aeq ks neg pa pb)
   |none=>none
  |_=>none)=some p→Oper.wp P {dst:=dst,op:=.binOp (if neg then .neq else .eql) t x y yt,type:=ty,pos:=pos,after:=after,guard:=guard} a w next Q:=by
  intro neg hp
  have hagg:agOf P t=some true→(match ynx P 100 t with
   |some ks=>if P.eqGuardType P.depth t then none else some (POp.aeq ks neg pa pb)
   |none=>none)=some p→Oper.wp P {dst:=dst,op:=.binOp (if neg then .neq else .eql) t x y yt,type:=ty,pos:=pos,after:=after,guard:=guard} a w next Q:=by
   intro hag hp
   split at hp
   case h_2=>cases hp
   rename_i ks hks
   split at hp
   case isTrue=>cases hp
   rename_i hg
   simp only[Ywh]at hp; subst hp
   simp only[POp.exec,Ywi,Ywj]at hx
   obtain⟨r,h4,rfl,rfl⟩:=hx
   obtain⟨⟨v,h5,h6⟩,xs,ys,h7,h8⟩:=Ye1 (P:=P) hks (by decide) hag h4 (hev x pa h1) (hev y pb h2)
   refine yaw (s:=do eqGuard (if neg then .neq else .eql) t x y (a.eval x) (a.eval y); binOp (if neg then .neq else .eql) t (a.eval x) (a.eval y)) hS rfl ?_ h6 hn
   have hgd:(eqGuard (if neg then .neq else .eql) t x y (a.eval x) (a.eval y)).run P w=.ok () w:=by
    rw[h7,h8]
    exact run_eqGuard_agg w _ t x y xs ys (by simpa using hg)
   simp only[Sem.run_bind,hgd,Result.andThen_ok,h5]
  split at hp
  ·simp only[Ywh]at hp; exact hbin _ hp.symm
  ·simp only[Ywh]at hp; exact hbin _ hp.symm
  ·rename_i hu
   simp only[Ywh]at hp; subst hp
   simp only[POp.exec,Ywi,Ywj]at hx
   obtain⟨r,h4,rfl,rfl⟩:=hx
   obtain⟨⟨v,h5,h6⟩,h7,h8⟩:=Yex (P:=P) neg t hu _ _ r _ _ h4 (hev x pa h1) (hev y pb h2)
   refine yaw (s:=do eqGuard (if neg then .neq else .eql) t x y (a.eval x) (a.eval y); binOp (if neg then .neq else .eql) t (a.eval x) (a.eval y)) hS rfl ?_ h6 hn
   simp only[Sem.run_bind,yp6 _ t x y _ _ h7 h8,Result.andThen_ok,h5]
  ·rename_i hu
   exact hagg (by simp[agOf,hu]) hp
  ·rename_i hu
   exact hagg (by simp[agOf,hu]) hp
  ·cases hp
 unfold Yc9 at ht
 split at ht
 ·exact heq false ht
 ·exact heq true ht
 ·simp only[Ywh]at ht; exact hbin _ ht.symm
theorem Yds(op:UnOp)(t:TypeId)(x:Operand){dst:Option Tmp}{ty:TypeId}{pos:String}{after:Array Edge}{guard:Option (Nat×Bool)}{G:Glob}{T:Tbl}{fr:Frame}{p:POp}(_hT:TblOK P G T)(hS:SR base w g st)(hG:GlobOK G w g)(hF:FR w g st fr a)(ht:trOp P il (.unOp op t x)=some p)
  (hx:p.exec T (rho G fr) st=some (d,st')) (hn:∀ v w' g',Go1 base w g st w' g' st'→RepV w' g' st' d v→next (a.put dst v) w'):Oper.wp P {dst:=dst,op:=.unOp op t x,type:=ty,pos:=pos,after:=after,guard:=guard} a w next Q:=by
 have hev:∀ x pa,trA x=some pa→RepV w g st (rho G fr pa) (a.eval x):=fun x pa h=>ybf hG hF h
 clear hF
 simp only[trOp,Ywi]at ht
 obtain⟨pa,hpa,rfl⟩:=ht
 simp only[POp.exec,Ywi,Ywj]at hx
 obtain⟨r,h4,rfl,rfl⟩:=hx
 obtain⟨v,h5,h6⟩:=Yl8 (P:=P) (w:=w) op _ r _ h4 (hev x pa hpa)
 exact yaw (s:=Op.unary op (a.eval x)) hS rfl h5 h6 hn
theorem yLn(src dt:TypeId)(x:Operand){dst:Option Tmp}{ty:TypeId}{pos:String}{after:Array Edge}{guard:Option (Nat×Bool)}{G:Glob}{T:Tbl}{fr:Frame}{p:POp}(_hT:TblOK P G T)(hS:SR base w g st)(hG:GlobOK G w g)(hF:FR w g st fr a)(ht:trOp P il (.convert src dt x)=some p)
  (hx:p.exec T (rho G fr) st=some (d,st')) (hn:∀ v w' g',Go1 base w g st w' g' st'→RepV w' g' st' d v→next (a.put dst v) w'):Oper.wp P {dst:=dst,op:=.convert src dt x,type:=ty,pos:=pos,after:=after,guard:=guard} a w next Q:=by
 have hev:∀ x pa,trA x=some pa→RepV w g st (rho G fr pa) (a.eval x):=fun x pa h=>ybf hG hF h
 clear hF
 simp only[trOp]at ht
 split at ht
 case h_2=>cases ht
 rename_i pa hpa
 have hr:=hev x pa hpa
 unfold yN4 at ht
 split at ht
 ·rename_i u k hs hd
  simp only[Ywh]at ht; subst ht
  simp only[POp.exec,Ywi,Ywj]at hx
  obtain⟨r,h4,rfl,rfl⟩:=hx
  unfold yde at h4
  split at h4 <;> rename_i hc1 hp <;> (try cases hc1) <;> (try (simp only[reduceCtorEq]at h4))
  simp only[Ywh]at h4; subst h4
  rw[hp]at hr
  have he:=ydt hr
  refine yaw (s:=convert src dt (a.eval x)) hS rfl ?_ (.int _ _) hn
  rw[he]
  simp[convert,run_underlying hs,run_underlying hd,Conv.intToInt]
 ·rename_i hs hd
  simp only[Ywh]at ht; subst ht
  simp only[POp.exec,Ywi,Ywj]at hx
  obtain⟨r,h4,rfl,rfl⟩:=hx
  unfold yde at h4
  split at h4 <;> rename_i hc1 hp <;> (try cases hc1) <;> (try (simp only[reduceCtorEq]at h4))
  simp only[Ywh]at h4; subst h4
  rw[hp]at hr
  have he:=yi0 hr
  refine yaw (s:=convert src dt (a.eval x)) hS rfl (v:=a.eval x) ?_ (by rw[he]; exact .str _) hn
  rw[he]
  simp[convert,run_underlying hs,run_underlying hd]
 ·rename_i e hs hd
  split at ht
  case h_2=>cases ht
  rename_i hu8
  simp only[Ywh]at ht; subst ht
  simp only[POp.exec,Ywi,Ywj]at hx
  obtain⟨r,h4,rfl,rfl⟩:=hx
  unfold yde at h4
  split at h4 <;> rename_i hc1 hp <;> (try cases hc1) <;> (try (simp only[reduceCtorEq]at h4))
  simp only[Ywh]at h4; subst h4
  rw[hp]at hr
  have he:=yi0 hr
  refine ytc (s:=convert src dt (a.eval x)) rfl ?_ hn
  rw[he]
  exact Ybs hS hs hd hu8
 ·rename_i e hs hd
  split at ht
  case h_2=>cases ht
  rename_i hu8
  simp only[Ywh]at ht; subst ht
  simp only[POp.exec,Ywi,Ywj]at hx
  obtain⟨r,h4,rfl,rfl⟩:=hx
  unfold yde at h4
  split at h4 <;> rename_i hc1 hp <;> (try cases hc1) <;> (try (simp only[reduceCtorEq]at h4))
  ·split at h4
   case isFalse=>cases h4
   rename_i hsz
   simp only[Ywi]at h4
   obtain⟨bs,hbs,rfl⟩:=h4
   rw[hp]at hr
   simp only[Bool.or_eq_true,beq_iff_eq,List.isEmpty_iff]at hsz
   exact yaw (s:=convert src dt (a.eval x)) hS rfl (yAt hs hu8 hd (yy7 hr) hsz hbs) (.str _) hn
  ·split at h4
   case h_2=>cases h4
   rename_i sz els hre
   split at h4
   case isFalse=>cases h4
   rename_i hsz
   simp only[Ywi]at h4
   obtain⟨bs,hbs,rfl⟩:=h4
   rw[hp]at hr
   simp only[beq_iff_eq]at hsz
   exact yaw (s:=convert src dt (a.eval x)) hS rfl (yAt hs hu8 hd (yLr hS hre hr).1 (.inl hsz) hbs) (.str _) hn
 ·cases ht
theorem yEu(t:TypeId)(l c:Operand){dst:Option Tmp}{ty:TypeId}{pos:String}{after:Array Edge}{guard:Option (Nat×Bool)}{G:Glob}{T:Tbl}{fr:Frame}{p:POp}(_hT:TblOK P G T)(hS:SR base w g st)(hG:GlobOK G w g)(hF:FR w g st fr a)(ht:trOp P il (.makeSlice t l c)=some p)
  (hx:p.exec T (rho G fr) st=some (d,st')) (hn:∀ v w' g',Go1 base w g st w' g' st'→RepV w' g' st' d v→next (a.put dst v) w'):Oper.wp P {dst:=dst,op:=.makeSlice t l c,type:=ty,pos:=pos,after:=after,guard:=guard} a w next Q:=by
 have hev:∀ x pa,trA x=some pa→RepV w g st (rho G fr pa) (a.eval x):=fun x pa h=>ybf hG hF h
 clear hF
 simp only[trOp]at ht
 split at ht
 case h_2=>cases ht
 rename_i pl pc e h1 h2 hu
 split at ht
 case h_2=>cases ht
 rename_i i hi
 split at ht
 case h_2=>cases ht
 rename_i z hz
 simp only[Ywi]at ht
 obtain⟨zd,hzd,rfl⟩:=ht
 simp only[POp.exec]at hx
 split at hx
 case h_2=>cases hx
 rename_i nl nc h3 h4
 split at hx
 case isFalse=>cases hx
 rename_i hc
 simp only[Ywh,Ywj]at hx
 obtain⟨rfl,rfl⟩:=hx
 obtain⟨c1,c2,c3,c4,c5,c6⟩:=hc
 exact ytc (s:=Instr.makeSlice t (a.eval l) (a.eval c)) rfl (yX0 hS hu hi hz hzd rfl rfl c4 c5 c6 h3 h4 (hev l pl h1) (hev c pc h2) c1 c2 c3) hn
theorem yVv(t:TypeId)(x:Operand)(lo hi mx:Option Operand){dst:Option Tmp}{ty:TypeId}{pos:String}{after:Array Edge}{guard:Option (Nat×Bool)}{G:Glob}{T:Tbl}{fr:Frame}{p:POp}(_hT:TblOK P G T)(hS:SR base w g st)(hG:GlobOK G w g)(hF:FR w g st fr a)(ht:trOp P il (.slice t x lo hi mx)=some p)
  (hx:p.exec T (rho G fr) st=some (d,st')) (hn:∀ v w' g',Go1 base w g st w' g' st'→RepV w' g' st' d v→next (a.put dst v) w'):Oper.wp P {dst:=dst,op:=.slice t x lo hi mx,type:=ty,pos:=pos,after:=after,guard:=guard} a w next Q:=by
 have hev:∀ x pa,trA x=some pa→RepV w g st (rho G fr pa) (a.eval x):=fun x pa h=>ybf hG hF h
 clear hF
 simp only[trOp]at ht
 split at ht
 case h_2=>cases ht
 rename_i pa plo phi pmx h1 h2 h3 h4
 have r2:=yMc h2 rfl hev
 have r3:=yMc h3 rfl hev
 have r4:=yMc h4 rfl hev
 unfold yD4 at ht
 split at ht
 ·rename_i hu
  simp only[Ywh]at ht; subst ht
  simp only[POp.exec,Ywi,Ywj]at hx
  obtain⟨r,h5,rfl,rfl⟩:=hx
  obtain⟨v,h6,h7⟩:=yCe (P:=P) hS (.inl ⟨rfl,hu⟩) h5 (hev x pa h1) r2 r3 r4
  exact yaw (s:=Instr.sliceAt t (a.eval x) (lo.map a.eval) (hi.map a.eval) (mx.map a.eval)) hS rfl h6 h7 hn
 ·rename_i e hu
  split at ht
  case h_2=>cases ht
  rename_i sz hsz
  split at ht
  case isTrue=>cases ht
  rename_i h0
  simp only[Ywh]at ht; subst ht
  simp only[POp.exec,Ywi,Ywj]at hx
  obtain⟨r,h5,rfl,rfl⟩:=hx
  obtain⟨v,h6,h7⟩:=yCe (P:=P) hS (.inr ⟨h0,e,hu,hsz⟩) h5 (hev x pa h1) r2 r3 r4
  exact yaw (s:=Instr.sliceAt t (a.eval x) (lo.map a.eval) (hi.map a.eval) (mx.map a.eval)) hS rfl h6 h7 hn
 ·rename_i n e hu
  split at ht
  case h_2=>cases ht
  rename_i sz ag hsz hag
  simp only[Ywh]at ht; subst ht
  have hm:mx=none:=by
   cases mx with
   |none=>rfl
   |some m=>simp at r4
  subst hm
  simp only[POp.exec,Ywi,Ywj]at hx
  obtain⟨r,h5,rfl,rfl⟩:=hx
  obtain⟨v,h6,h7⟩:=yL1 (P:=P) hu hsz h5 (hev x pa h1) r2 r3
  exact yaw (s:=Instr.sliceAt t (a.eval x) (lo.map a.eval) (hi.map a.eval) none) hS rfl h6 h7 hn
 ·cases ht
theorem yEw(s:TypeId)(x:Operand)(f:Nat){dst:Option Tmp}{ty:TypeId}{pos:String}{after:Array Edge}{guard:Option (Nat×Bool)}{G:Glob}{T:Tbl}{fr:Frame}{p:POp}(_hT:TblOK P G T)(hS:SR base w g st)(hG:GlobOK G w g)(hF:FR w g st fr a)(ht:trOp P il (.fieldAddr s x f)=some p)
  (hx:p.exec T (rho G fr) st=some (d,st')) (hn:∀ v w' g',Go1 base w g st w' g' st'→RepV w' g' st' d v→next (a.put dst v) w'):Oper.wp P {dst:=dst,op:=.fieldAddr s x f,type:=ty,pos:=pos,after:=after,guard:=guard} a w next Q:=by
 have hev:∀ x pa,trA x=some pa→RepV w g st (rho G fr pa) (a.eval x):=fun x pa h=>ybf hG hF h
 clear hF
 simp only[trOp]at ht
 split at ht
 case h_2=>cases ht
 rename_i pa fields h1 hu
 split at ht
 case h_2=>cases ht
 rename_i fd hfd
 split at ht
 case h_2=>cases ht
 rename_i n hsz
 split at ht
 case isTrue=>cases ht
 rename_i h0
 simp only[Ywh]at ht; subst ht
 simp only[POp.exec,Ywi,Ywj]at hx
 obtain⟨r,h5,rfl,rfl⟩:=hx
 obtain⟨v,h6,h7⟩:=yM4 (P:=P) hu hfd hsz h0 h5 (hev x pa h1)
 exact yaw (s:=Instr.fieldAt s (a.eval x) f) hS rfl h6 h7 hn
theorem yVx(s:TypeId)(x:Operand)(f:Nat){dst:Option Tmp}{ty:TypeId}{pos:String}{after:Array Edge}{guard:Option (Nat×Bool)}{G:Glob}{T:Tbl}{fr:Frame}{p:POp}(_hT:TblOK P G T)(hS:SR base w g st)(hG:GlobOK G w g)(hF:FR w g st fr a)(ht:trOp P il (.field s x f)=some p)
  (hx:p.exec T (rho G fr) st=some (d,st')) (hn:∀ v w' g',Go1 base w g st w' g' st'→RepV w' g' st' d v→next (a.put dst v) w'):Oper.wp P {dst:=dst,op:=.field s x f,type:=ty,pos:=pos,after:=after,guard:=guard} a w next Q:=by
 have hev:∀ x pa,trA x=some pa→RepV w g st (rho G fr pa) (a.eval x):=fun x pa h=>ybf hG hF h
 clear hF
 simp only[trOp]at ht
 split at ht
 case h_2=>cases ht
 rename_i pa fields h1 hu
 split at ht
 case h_2=>cases ht
 rename_i fd hfd
 split at ht
 case h_2=>cases ht
 rename_i n ag hsz hag
 simp only[Ywh]at ht; subst ht
 simp only[POp.exec,Ywi,Ywj]at hx
 obtain⟨r,h5,rfl,rfl⟩:=hx
 obtain⟨v,h6,h7⟩:=yW9 (P:=P) hu hfd hag hsz h5 (hev x pa h1)
 exact yaw (s:=Instr.field s (a.eval x) f) hS rfl h6 h7 hn
theorem yEv(t:TypeId)(x i:Operand){dst:Option Tmp}{ty:TypeId}{pos:String}{after:Array Edge}{guard:Option (Nat×Bool)}{G:Glob}{T:Tbl}{fr:Frame}{p:POp}(_hT:TblOK P G T)(hS:SR base w g st)(hG:GlobOK G w g)(hF:FR w g st fr a)(ht:trOp P il (.indexAddr t x i)=some p)
  (hx:p.exec T (rho G fr) st=some (d,st')) (hn:∀ v w' g',Go1 base w g st w' g' st'→RepV w' g' st' d v→next (a.put dst v) w'):Oper.wp P {dst:=dst,op:=.indexAddr t x i,type:=ty,pos:=pos,after:=after,guard:=guard} a w next Q:=by
 have hev:∀ x pa,trA x=some pa→RepV w g st (rho G fr pa) (a.eval x):=fun x pa h=>ybf hG hF h
 clear hF
 simp only[trOp]at ht
 split at ht
 ·rename_i pa pi len e h1 h2 hu
  simp only[Ywi]at ht
  obtain⟨n,hsz,rfl⟩:=ht
  simp only[POp.exec,Ywi,Ywj]at hx
  obtain⟨r,h5,rfl,rfl⟩:=hx
  obtain⟨v,h6,h7⟩:=yz6 (P:=P) hu hsz h5 (hev x pa h1) (hev i pi h2)
  exact yaw (s:=Instr.indexAt t (a.eval x) (a.eval i)) hS rfl h6 h7 hn
 ·rename_i pa pi e h1 h2 hu
  simp only[Ywi]at ht
  obtain⟨n,hsz,rfl⟩:=ht
  simp only[POp.exec,Ywi,Ywj]at hx
  obtain⟨r,h5,rfl,rfl⟩:=hx
  obtain⟨v,h6,h7⟩:=yBv (P:=P) hu hsz h5 (hev x pa h1) (hev i pi h2)
  exact yaw (s:=Instr.indexAt t (a.eval x) (a.eval i)) hS rfl h6 h7 hn
 ·cases ht
theorem yVw(t:TypeId)(x i:Operand){dst:Option Tmp}{ty:TypeId}{pos:String}{after:Array Edge}{guard:Option (Nat×Bool)}{G:Glob}{T:Tbl}{fr:Frame}{p:POp}(_hT:TblOK P G T)(hS:SR base w g st)(hG:GlobOK G w g)(hF:FR w g st fr a)(ht:trOp P il (.index t x i)=some p)
  (hx:p.exec T (rho G fr) st=some (d,st')) (hn:∀ v w' g',Go1 base w g st w' g' st'→RepV w' g' st' d v→next (a.put dst v) w'):Oper.wp P {dst:=dst,op:=.index t x i,type:=ty,pos:=pos,after:=after,guard:=guard} a w next Q:=by
 have hev:∀ x pa,trA x=some pa→RepV w g st (rho G fr pa) (a.eval x):=fun x pa h=>ybf hG hF h
 clear hF
 simp only[trOp]at ht
 split at ht
 ·rename_i pa pi len e h1 h2 hu
  split at ht
  case h_2=>cases ht
  rename_i n ag hsz hag
  simp only[Ywh]at ht; subst ht
  simp only[POp.exec,Ywi,Ywj]at hx
  obtain⟨r,h5,rfl,rfl⟩:=hx
  obtain⟨v,h6,h7⟩:=yW3 (P:=P) hu hag hsz h5 (hev x pa h1) (hev i pi h2)
  exact yaw (s:=Instr.index t (a.eval x) (a.eval i)) hS rfl h6 h7 hn
 ·rename_i pa pi h1 h2 hu
  simp only[Ywh]at ht; subst ht
  simp only[POp.exec,Ywi,Ywj]at hx
  obtain⟨r,h5,rfl,rfl⟩:=hx
  obtain⟨v,h6,h7⟩:=Yeu (P:=P) hu h5 (hev x pa h1) (hev i pi h2)
  exact yaw (s:=Instr.index t (a.eval x) (a.eval i)) hS rfl h6 h7 hn
 ·cases ht
theorem yLm(x:Operand)(i:Nat){dst:Option Tmp}{ty:TypeId}{pos:String}{after:Array Edge}{guard:Option (Nat×Bool)}{G:Glob}{T:Tbl}{fr:Frame}{p:POp}(_hT:TblOK P G T)(hS:SR base w g st)(hG:GlobOK G w g)(hF:FR w g st fr a)(ht:trOp P il (.extract x i)=some p)
  (hx:p.exec T (rho G fr) st=some (d,st')) (hn:∀ v w' g',Go1 base w g st w' g' st'→RepV w' g' st' d v→next (a.put dst v) w'):Oper.wp P {dst:=dst,op:=.extract x i,type:=ty,pos:=pos,after:=after,guard:=guard} a w next Q:=by
 have hev:∀ x pa,trA x=some pa→RepV w g st (rho G fr pa) (a.eval x):=fun x pa h=>ybf hG hF h
 clear hF
 simp only[trOp,Ywi]at ht
 obtain⟨pa,h1,rfl⟩:=ht
 simp only[POp.exec]at hx
 have hr:=hev x pa h1
 split at hx
 ·rename_i vs hp
  simp only[Ywi,Ywj]at hx
  obtain⟨r,h5,rfl,rfl⟩:=hx
  rw[hp]at hr
  generalize hv:a.eval x=v at hr
  cases hr with
  |tup _ us h2 h3=>
   have hl:i<us.length:=by rw[← h2]; exact(List.getElem?_eq_some_iff.1 h5).1
   refine yaw (s:=Instr.extract (a.eval x) i) hS rfl (v:=us[i]) ?_ (h3 i r _ h5 (List.getElem?_eq_getElem hl)) hn
   simp[hv,Instr.extract,hl]
 ·cases hx
theorem yEt(t:TypeId)(m k v:Operand){dst:Option Tmp}{ty:TypeId}{pos:String}{after:Array Edge}{guard:Option (Nat×Bool)}{G:Glob}{T:Tbl}{fr:Frame}{p:POp}(_hT:TblOK P G T)(hS:SR base w g st)(hG:GlobOK G w g)(hF:FR w g st fr a)(ht:trOp P il (.mapUpdate t m k v)=some p)
  (hx:p.exec T (rho G fr) st=some (d,st')) (hn:∀ v w' g',Go1 base w g st w' g' st'→RepV w' g' st' d v→next (a.put dst v) w'):Oper.wp P {dst:=dst,op:=.mapUpdate t m k v,type:=ty,pos:=pos,after:=after,guard:=guard} a w next Q:=by
 have hev:∀ x pa,trA x=some pa→RepV w g st (rho G fr pa) (a.eval x):=fun x pa h=>ybf hG hF h
 clear hF
 simp only[trOp]at ht
 split at ht
 case h_2=>cases ht
 rename_i kt et sz ks pm pk pv h1 h2 h3 h4
 simp only[Ywh]at ht; subst ht
 simp only[POp.exec,Ywi,Ywj]at hx
 obtain⟨r,h5,rfl,rfl⟩:=hx
 obtain⟨w',g',h6,h7⟩:=yIo (P:=P) hS h1 (hev m pm h2) (hev k pk h3) (hev v pv h4) h5
 unfold Oper.wp execOp
 simp only[Sem.run_bind,h6,Result.andThen_ok,Sem.run_pure]
 exact hn undef w' g' h7 (.tup [] [] rfl (fun i d v h=>by simp at h))
theorem yRd(t:TypeId)(m k v:Operand){dst:Option Tmp}{ty:TypeId}{pos:String}{after:Array Edge}{guard:Option (Nat×Bool)}{G:Glob}{T:Tbl}{fr:Frame}{p:POp}(_hT:TblOK P G T)(hS:SR base w g st)(hG:GlobOK G w g)(hF:FR w g st fr a)(ht:trOp P il (.insert t m k v)=some p)
  (hx:p.exec T (rho G fr) st=some (d,st')) (hn:∀ v w' g',Go1 base w g st w' g' st'→RepV w' g' st' d v→next (a.put dst v) w'):Oper.wp P {dst:=dst,op:=.insert t m k v,type:=ty,pos:=pos,after:=after,guard:=guard} a w next Q:=by
 have hev:∀ x pa,trA x=some pa→RepV w g st (rho G fr pa) (a.eval x):=fun x pa h=>ybf hG hF h
 clear hF
 simp only[trOp]at ht
 split at ht
 case h_2=>cases ht
 rename_i kt et sz ks pm pk pv h1 h2 h3 h4
 simp only[Ywh]at ht; subst ht
 simp only[POp.exec,Ywi,Ywj]at hx
 obtain⟨r,h5,rfl,rfl⟩:=hx
 obtain⟨w',g',h6,h7⟩:=yIo (P:=P) hS h1 (hev m pm h2) (hev k pk h3) (hev v pv h4) h5
 unfold Oper.wp execOp
 simp only[Sem.run_bind,h6,Result.andThen_ok,Sem.run_pure]
 exact hn undef w' g' h7 (.tup [] [] rfl (fun i d v h=>by simp at h))
theorem yRc(t:TypeId)(m k:Operand)(ok:Bool){dst:Option Tmp}{ty:TypeId}{pos:String}{after:Array Edge}{guard:Option (Nat×Bool)}{G:Glob}{T:Tbl}{fr:Frame}{p:POp}(_hT:TblOK P G T)(hS:SR base w g st)(hG:GlobOK G w g)(hF:FR w g st fr a)(ht:trOp P il (.lookup t m k ok)=some p)
  (hx:p.exec T (rho G fr) st=some (d,st')) (hn:∀ v w' g',Go1 base w g st w' g' st'→RepV w' g' st' d v→next (a.put dst v) w'):Oper.wp P {dst:=dst,op:=.lookup t m k ok,type:=ty,pos:=pos,after:=after,guard:=guard} a w next Q:=by
 have hev:∀ x pa,trA x=some pa→RepV w g st (rho G fr pa) (a.eval x):=fun x pa h=>ybf hG hF h
 clear hF
 simp only[trOp]at ht
 split at ht
 case h_2=>
  split at ht
  case h_2=>cases ht
  rename_i zd pm pk h1 h2 h3
  simp only[Ywh]at ht; subst ht
  simp only[POp.exec,Ywi,Ywj]at hx
  obtain⟨r,h5,rfl,rfl⟩:=hx
  obtain⟨v,h6,h7⟩:=Ygv (P:=P) h1 (hev m pm h2) (hev k pk h3) h5
  exact yaw (s:=Instr.lookup t (a.eval m) (a.eval k) ok) hS rfl h6 h7 hn
 rename_i kt et sz ks pm pk h1 h2 h3
 simp only[Ywi]at ht
 obtain⟨zd,h4,rfl⟩:=ht
 simp only[POp.exec,Ywi,Ywj]at hx
 obtain⟨r,h5,rfl,rfl⟩:=hx
 obtain⟨v,h6,h7⟩:=ySq (P:=P) hS h1 h4 (hev m pm h2) (hev k pk h3) h5
 exact yaw (s:=Instr.lookup t (a.eval m) (a.eval k) ok) hS rfl h6 h7 hn
theorem yLk(t:TypeId)(rs:Option Operand){dst:Option Tmp}{ty:TypeId}{pos:String}{after:Array Edge}{guard:Option (Nat×Bool)}{G:Glob}{T:Tbl}{fr:Frame}{p:POp}(_hT:TblOK P G T)(hS:SR base w g st)(hG:GlobOK G w g)(hF:FR w g st fr a)(ht:trOp P il (.makeMap t rs)=some p)
  (hx:p.exec T (rho G fr) st=some (d,st')) (hn:∀ v w' g',Go1 base w g st w' g' st'→RepV w' g' st' d v→next (a.put dst v) w'):Oper.wp P {dst:=dst,op:=.makeMap t rs,type:=ty,pos:=pos,after:=after,guard:=guard} a w next Q:=by
 have hev:∀ x pa,trA x=some pa→RepV w g st (rho G fr pa) (a.eval x):=fun x pa h=>ybf hG hF h
 clear hF
 cases rs with
 |some x=>simp[trOp]at ht
 |none=>
  simp only[trOp]at ht
  split at ht
  case h_2=>cases ht
  rename_i kt et sz ks h1
  simp only[Ywh]at ht; subst ht
  simp only[POp.exec]at hx
  split at hx
  case isFalse=>cases hx
  rename_i hc
  simp only[Ywh,Ywj]at hx
  obtain⟨rfl,rfl⟩:=hx
  exact ytc (s:=Instr.makeMap t none) rfl (yX1 (P:=P) (t:=t) hS hc.1 hc.2) hn
theorem yvx{ds es:List D}{vs us:List Value}(h1:ds.length=vs.length)(h2:∀ (i:Nat) d v,ds[i]?=some d→vs[i]?=some v→RepV w g st d v)(h4:∀ (i:Nat) d v,es[i]?=some d→us[i]?=some v→RepV w g st d v) :
  ∀ (i:Nat) d v,(ds++es)[i]?=some d→(vs++us)[i]?=some v→RepV w g st d v:=by
 intro i d v hd hv
 rcases Nat.lt_or_ge i ds.length with hi | hi
 ·rw[List.getElem?_append_left hi]at hd
  rw[List.getElem?_append_left (by omega)]at hv
  exact h2 i d v hd hv
 ·rw[List.getElem?_append_right hi]at hd
  rw[List.getElem?_append_right (by omega)]at hv
  rw[← h1]at hv
  exact h4 _ d v hd hv
theorem ywf{dst:Option Tmp}{ty:TypeId}{pos:String}{after:Array Edge}{guard:Option (Nat×Bool)}{G:Glob}{fr:Frame}{c:Call}{x:Operand}{pa:PA}{l:List PA}{f:Nat}{ds:List D}(hev:∀ x pa,trA x=some pa→RepV w g st (rho G fr pa) (a.eval x))(hcal:c.callee=.value x)
  (hpa:trA x=some pa) (hl:trAs c.args.toList=some l) (hc:(POp.callv pa l).callee (rho G fr)=some (f,ds)) :
  ∃ vs:List Value,ds.length=vs.length∧(∀ (i:Nat) d v,ds[i]?=some d→vs[i]?=some v→RepV w g st d v)∧execOp a.eval {dst:=dst,op:=.call c,type:=ty,pos:=pos,after:=after,guard:=guard}=callFunc f vs.toArray:=by
 obtain⟨g1,g2⟩:=yir hev hl
 have g1:(l.map (rho G fr)).length=(c.args.toList.map a.eval).length:=by simpa using g1
 have hr:=hev x pa hpa
 simp only[POp.callee]at hc
 split at hc
 case h_2=>cases hc
 rename_i f' caps hclo
 rw[hclo]at hr
 generalize hxv:a.eval x=xv at hr
 cases hr with
 |clo _ _ us hlen hus=>
  by_cases hlt:f'<5000000
  ·rw[if_pos hlt]at hc
   simp only[Ywh,Ywj]at hc
   obtain⟨rfl,rfl⟩:=hc
   rw[yv8 hlt,yq9 hlt,yu3 hlt]at hxv
   refine⟨c.args.toList.map a.eval++us,by rw[List.length_append,List.length_append,g1,hlen],yvx g1 g2 hus,?_⟩
   simp only[execOp,resolve,hcal,hxv,Deferred.ofValue]
   have:(c.args.toList.map a.eval++us).toArray=c.args.map a.eval++us.toArray:=by
    apply Array.ext'
    simp
   rw[this]
   simp only[Array.empty_append]
   show(do let d ← (pure {target:=Target.fn (Fn.func f') us.toArray,args:=c.args.map a.eval}:Sem Deferred); invoke d.target d.args)=_
   show invoke (Target.fn (Fn.func f') us.toArray) (c.args.map a.eval)=_
   simp[invoke]
  ·rw[if_neg hlt]at hc
   split at hc
   case isFalse=>cases hc
   rename_i hlt2
   simp only[Ywh,Ywj]at hc
   obtain⟨rfl,rfl⟩:=hc
   obtain⟨f,rfl⟩:∃ f,f'=f+5000000:=⟨f' - 5000000,by omega⟩
   have hf:f<5000000:=by omega
   rw[yPz hf,yAk hf,yDb hf]at hxv
   rw[Nat.add_sub_cancel]
   refine⟨us++c.args.toList.map a.eval,by rw[List.length_append,List.length_append,g1,hlen],yvx hlen hus g2,?_⟩
   simp only[execOp,resolve,hcal,hxv,Deferred.ofValue]
   have:(us++c.args.toList.map a.eval).toArray=us.toArray++c.args.map a.eval:=by
    apply Array.ext'
    simp
   rw[this]
   show(do let d ← (pure {target:=Target.fn (Fn.func f) #[],args:=us.toArray++c.args.map a.eval}:Sem Deferred); invoke d.target d.args)=_
   show invoke (Target.fn (Fn.func f) #[]) (us.toArray++c.args.map a.eval)=_
   simp[invoke]
theorem Ydw(c:Call){dst:Option Tmp}{ty:TypeId}{pos:String}{after:Array Edge}{guard:Option (Nat×Bool)}{G:Glob}{T:Tbl}{fr:Frame}{p:POp}(hT:TblOK P G T)(hS:SR base w g st)(hG:GlobOK G w g)(hF:FR w g st fr a)(ht:trOp P il (.call c)=some p)(hny:∀ x args f caps,p=.callv x args→rho G fr x=.clo f caps→f<10000000)
  (hx:p.exec T (rho G fr) st=some (d,st')) (hn:∀ v w' g',Go1 base w g st w' g' st'→RepV w' g' st' d v→next (a.put dst v) w'):Oper.wp P {dst:=dst,op:=.call c,type:=ty,pos:=pos,after:=after,guard:=guard} a w next Q:=by
 have hev:∀ x pa,trA x=some pa→RepV w g st (rho G fr pa) (a.eval x):=fun x pa h=>ybf hG hF h
 clear hF
 simp only[trOp]at ht
 split at ht
 ·rename_i b hb
  -- a builtin
  have hargs:∀ l,c.args.toList=l→c.args=l.toArray:=fun l h=>by rw[← h,Array.toArray_toList]
  have hts:∀ l,c.argTypes.toList=l→c.argTypes=l.toArray:=fun l h=>by rw[← h,Array.toArray_toList]
  unfold yts at ht
  split at ht
  ·rename_i x t e1 e2
   have e1:=hargs _ e1
   have e2:=hts _ e2
   have hexec:execOp a.eval {dst:=dst,op:=.call c,type:=ty,pos:=pos,after:=after,guard:=guard}=(do pure (.value (← Builtin.len_ #[t] ty #[a.eval x]))):=by
    simp[execOp,resolve,hb,e1,e2,invoke,builtin]
   split at ht
   ·rename_i pa h1 hu
    simp only[Ywh]at ht; subst ht
    simp only[POp.exec]at hx
    split at hx
    case isFalse=>cases hx
    rename_i hst
    simp only[Ywi,Ywj]at hx
    obtain⟨n,h5,rfl,rfl⟩:=hx
    refine yaw hS hexec (yOd (.inl hu) ⟨fun _=>?_,fun _=>hu⟩ h5 (hev x pa h1) ty) (.int _ _) hn
    cases hp:rho G fr pa <;> simp[hp,yp1]at hst
    exact⟨_,rfl⟩
   ·rename_i pa e h1 hu
    simp only[Ywh]at ht; subst ht
    simp only[POp.exec]at hx
    split at hx
    case isFalse=>cases hx
    rename_i hst
    simp only[Ywi,Ywj]at hx
    obtain⟨n,h5,rfl,rfl⟩:=hx
    refine yaw hS hexec (yOd (.inr ⟨e,hu⟩) ⟨(by intro h; rw[hu]at h; cases h),fun⟨s,hs⟩=>?_⟩ h5 (hev x pa h1) ty) (.int _ _) hn
    simp[hs,yp1]at hst
   ·rename_i pa n e h1 hu
    simp only[Ywh]at ht; subst ht
    simp only[POp.exec,Ywh,Ywj]at hx
    obtain⟨rfl,rfl⟩:=hx
    refine yaw hS hexec ?_ (.int _ _) hn
    simp[Builtin.len_,run_underlying hu,goInt]
   ·cases ht
  ·rename_i s x t tx e1 e2
   have e1:=hargs _ e1
   have e2:=hts _ e2
   have hexec:execOp a.eval {dst:=dst,op:=.call c,type:=ty,pos:=pos,after:=after,guard:=guard}=(do pure (.value (← Builtin.append_ #[t,tx] ty #[a.eval s,a.eval x]))):=by
    simp[execOp,resolve,hb,e1,e2,invoke,builtin]
   have fin:∀ ps px e,trA s=some ps→trA x=some px→P.underlying t=some (.slice e)→((∃ e',P.underlying tx=some (.slice e'))∨P.underlying tx=some .string)→(match P.info? e with
    |some i=>match i.zero with
     |some z=>if z.cells.size=i.size then some (POp.app i.size i.bytes ps px)else none
     |none=>none
    |none=>none)=some p→Oper.wp P {dst:=dst,op:=.call c,type:=ty,pos:=pos,after:=after,guard:=guard} a w next Q:=by
    intro ps px e h1 h2 hu hux hp
    split at hp
    case h_2=>cases hp
    rename_i i hi
    split at hp
    case h_2=>cases hp
    rename_i z hz
    split at hp
    case isFalse=>cases hp
    rename_i hzs
    simp only[Ywh]at hp; subst hp
    simp only[POp.exec]at hx
    exact ytc hexec (Yey hS hu hux hi hz rfl rfl hzs hx (hev s ps h1) (hev x px h2)) hn
   split at ht
   ·rename_i ps px e e' h1 h2 hu hux
    exact fin ps px e h1 h2 hu (.inl ⟨e',hux⟩) ht
   ·rename_i ps px e h1 h2 hu hux
    exact fin ps px e h1 h2 hu (.inr hux) ht
   ·cases ht
  ·rename_i x y t t2 e1 e2
   have e1:=hargs _ e1
   have e2:=hts _ e2
   split at ht
   case h_2=>cases ht
   rename_i px py e h1 h2 hu
   split at ht
   case h_2=>cases ht
   rename_i hs1
   simp only[Ywh]at ht; subst ht
   simp only[POp.exec]at hx
   exact ytc (s:=Builtin.copy_ #[t,t2] ty #[a.eval x,a.eval y]) (by simp[execOp,resolve,hb,e1,e2,invoke,builtin]) (Yo4 hS hu hs1 (hev x px h1) (hev y py h2) hx) hn
  ·rename_i x y e1
   have e1:=hargs _ e1
   split at ht
   case h_2=>cases ht
   rename_i px py h1 h2
   simp only[Ywh]at ht; subst ht
   simp only[POp.exec]at hx
   split at hx
   case h_2=>cases hx
   rename_i k n k' m hp1 hp2
   simp only[Ywh,Ywj]at hx
   obtain⟨rfl,rfl⟩:=hx
   have r1:=hev x px h1
   have r2:=hev y py h2
   rw[hp1]at r1
   rw[hp2]at r2
   have q1:=ydt r1
   have q2:=ydt r2
   refine yaw (s:=Builtin.min_ c.argTypes ty #[a.eval x,a.eval y]) hS ?_ ?_ (.int k (if m<n then m else n)) hn
   ·simp[execOp,resolve,hb,e1,invoke,builtin]
   ·simp[Builtin.min_,q1,q2,Builtin.min2]
  ·rename_i x y e1
   have e1:=hargs _ e1
   split at ht
   case h_2=>cases ht
   rename_i px py h1 h2
   simp only[Ywh]at ht; subst ht
   simp only[POp.exec]at hx
   split at hx
   case h_2=>cases hx
   rename_i k n k' m hp1 hp2
   simp only[Ywh,Ywj]at hx
   obtain⟨rfl,rfl⟩:=hx
   have r1:=hev x px h1
   have r2:=hev y py h2
   rw[hp1]at r1
   rw[hp2]at r2
   have q1:=ydt r1
   have q2:=ydt r2
   refine yaw (s:=Builtin.max_ c.argTypes ty #[a.eval x,a.eval y]) hS ?_ ?_ (.int k (if m > n then m else n)) hn
   ·simp[execOp,resolve,hb,e1,invoke,builtin]
   ·simp[Builtin.max_,q1,q2,Builtin.max2]
  ·rename_i x y z e1
   have e1:=hargs _ e1
   split at ht
   case h_2=>cases ht
   rename_i px py pz h1 h2 h3
   simp only[Ywh]at ht; subst ht
   simp only[POp.exec]at hx
   split at hx
   case h_2=>cases hx
   rename_i k n k' m k2 l hp1 hp2 hp3
   simp only[Ywh,Ywj]at hx
   obtain⟨rfl,rfl⟩:=hx
   have r1:=hev x px h1
   have r2:=hev y py h2
   have r3:=hev z pz h3
   rw[hp1]at r1
   rw[hp2]at r2
   rw[hp3]at r3
   have q1:=ydt r1
   have q2:=ydt r2
   have q3:=ydt r3
   refine yaw (s:=Builtin.min_ c.argTypes ty #[a.eval x,a.eval y,a.eval z]) hS ?_ ?_ (.int k (mm1 false (mm1 false n m) l)) hn
   ·simp[execOp,resolve,hb,e1,invoke,builtin]
   ·simp[Builtin.min_,q1,q2,q3,Builtin.min2,mm1]
  ·rename_i x y z e1
   have e1:=hargs _ e1
   split at ht
   case h_2=>cases ht
   rename_i px py pz h1 h2 h3
   simp only[Ywh]at ht; subst ht
   simp only[POp.exec]at hx
   split at hx
   case h_2=>cases hx
   rename_i k n k' m k2 l hp1 hp2 hp3
   simp only[Ywh,Ywj]at hx
   obtain⟨rfl,rfl⟩:=hx
   have r1:=hev x px h1
   have r2:=hev y py h2
   have r3:=hev z pz h3
   rw[hp1]at r1
   rw[hp2]at r2
   rw[hp3]at r3
   have q1:=ydt r1
   have q2:=ydt r2
   have q3:=ydt r3
   refine yaw (s:=Builtin.max_ c.argTypes ty #[a.eval x,a.eval y,a.eval z]) hS ?_ ?_ (.int k (mm1 true (mm1 true n m) l)) hn
   ·simp[execOp,resolve,hb,e1,invoke,builtin]
   ·simp[Builtin.max_,q1,q2,q3,Builtin.max2,mm1]
  ·cases ht
 ·rename_i f hf
  split at ht
  case h_2=>cases ht
  rename_i fn l hfn hl
  have hex:execOp a.eval {dst:=dst,op:=.call c,type:=ty,pos:=pos,after:=after,guard:=guard}=callFunc f (c.args.toList.map a.eval).toArray:=by
   simp only[execOp,resolve,hf,Act.eval,Deferred.ofValue]
   have:(c.args.toList.map a.eval).toArray=c.args.map a.eval:=by
    apply Array.ext'
    simp
   rw[this]
   simp only[Array.empty_append]
   show(do let d ← (pure {target:=Target.fn (Fn.func f) #[],args:=c.args.map a.eval}:Sem Deferred); invoke d.target d.args)=_
   show invoke (Target.fn (Fn.func f) #[]) (c.args.map a.eval)=_
   simp[invoke]
  obtain⟨g1,g2⟩:=yir hev hl
  split at ht
  case isFalse=>
   split at ht
   case isTrue=>cases ht
   simp only[Ywh]at ht
   subst ht
   simp only[POp.exec]at hx
   split at hx
   case h_2=>cases hx
   rename_i sp ys hsp hys
   split at hx
   case h_2=>cases hx
   rename_i r hr
   simp only[Ywh,Ywj]at hx
   obtain⟨rfl,rfl⟩:=hx
   rcases hT.p _ _ hsp with⟨hC,_⟩ | ⟨f',e,hE⟩
   ·omega
   ·obtain rfl:f=f':=Nat.add_right_cancel e
    exact Yoy hS hE hys hr (by simpa using g1) g2 hex hn
  rename_i hc
  simp only[Bool.and_eq_true,Bool.not_eq_true',decide_eq_true_eq]at hc
  simp only[Ywh]at ht
  split at ht
  ·subst ht
   simp only[POp.exec]at hx
   split at hx
   case h_2=>cases hx
   rename_i sp hsp
   split at hx
   case h_2=>cases hx
   rename_i r hr
   refine yv7 (hT.m f sp hsp) hS hG (ds:=l.map (rho G fr)) (vs:=c.args.toList.map a.eval) (r:=d) (st':=st') ?_ (by simpa using g1) g2 hex hn
   simp only[hr,Option.map_some]
   exact hx
  split at ht
  ·subst ht
   simp only[POp.exec]at hx
   split at hx
   case h_2=>cases hx
   rename_i sp hsp
   exact yv7 (hT.q f sp hsp) hS hG (ds:=l.map (rho G fr)) (vs:=c.args.toList.map a.eval) (r:=d) (st':=st') hx (by simpa using g1) g2 hex hn
  split at ht
  ·subst ht
   simp only[POp.exec]at hx
   split at hx
   case h_2=>cases hx
   rename_i sp hsp
   exact yAd hT hS hG (ds:=l.map (rho G fr)) (vs:=c.args.toList.map a.eval) hsp hx (by simpa using g1) g2 hex hn
  ·subst ht
   simp only[POp.exec]at hx
   split at hx
   case h_2=>cases hx
   rename_i sp ys hsp hys
   split at hx
   case h_2=>cases hx
   rename_i r hr
   simp only[Ywh,Ywj]at hx
   obtain⟨rfl,rfl⟩:=hx
   exact Yhq hT hS hG (ds:=l.map (rho G fr)) (vs:=c.args.toList.map a.eval) hfn hc.1.1 hc.1.2 hc.2 hsp hys hr (by simpa using g1) g2 hex hn
 ·rename_i x hnf hcal
  split at ht
  case h_2=>cases ht
  rename_i pa l hpa hl
  simp only[Ywh]at ht; subst ht
  simp only[POp.exec]at hx
  split at hx
  case h_2=>cases hx
  rename_i f caps hclo
  have hlt2:=hny _ _ _ _ rfl hclo
  by_cases hlt:f<5000000
  ·rw[if_pos hlt]at hx
   split at hx
   case h_2=>cases hx
   rename_i sp hsp
   obtain⟨vs,e1,e2,e3⟩:=ywf (dst:=dst) (ty:=ty) (pos:=pos) (after:=after) (guard:=guard) hev hcal hpa hl (show(POp.callv pa l).callee (rho G fr)=some (f,l.map (rho G fr)++caps) by simp[POp.callee,hclo,hlt])
   exact yAd hT hS hG hsp hx e1 e2 e3 hn
  ·rw[if_neg hlt,if_pos hlt2]at hx
   split at hx
   case h_2=>cases hx
   rename_i sp hsp
   obtain⟨vs,e1,e2,e3⟩:=ywf (dst:=dst) (ty:=ty) (pos:=pos) (after:=after) (guard:=guard) hev hcal hpa hl (show(POp.callv pa l).callee (rho G fr)=some (f - 5000000,caps++l.map (rho G fr)) by simp[POp.callee,hclo,hlt,hlt2])
   exact yAd hT hS hG hsp hx e1 e2 e3 hn
 ·cases ht
theorem yHw(fn:Fn)(first caps:Array Operand){dst:Option Tmp}{ty:TypeId}{pos:String}{after:Array Edge}{guard:Option (Nat×Bool)}{G:Glob}{T:Tbl}{fr:Frame}{p:POp}(_hT:TblOK P G T)(hS:SR base w g st)(hG:GlobOK G w g)(hF:FR w g st fr a)(ht:trOp P il (.makeFunc fn first caps)=some p)
  (hx:p.exec T (rho G fr) st=some (d,st')) (hn:∀ v w' g',Go1 base w g st w' g' st'→RepV w' g' st' d v→next (a.put dst v) w'):Oper.wp P {dst:=dst,op:=.makeFunc fn first caps,type:=ty,pos:=pos,after:=after,guard:=guard} a w next Q:=by
 have hev:∀ x pa,trA x=some pa→RepV w g st (rho G fr pa) (a.eval x):=fun x pa h=>ybf hG hF h
 clear hF
 cases fn with
 |func f=>
  simp only[trOp]at ht
  split at ht
  case isFalse=>cases ht
  rename_i hlt
  simp only[decide_eq_true_eq]at hlt
  split at ht
  ·rename_i hf
   simp only[Ywi]at ht
   obtain⟨l,hl,rfl⟩:=ht
   simp only[POp.exec,Ywh,Ywj]at hx
   obtain⟨rfl,rfl⟩:=hx
   obtain⟨g1,g2⟩:=yir hev hl
   refine yaw (s:=Instr.makeFunc (.func f) (first.map a.eval) (caps.map a.eval)) hS rfl (v:=.func (fnOf f) (ysx f (caps.toList.map a.eval)) (yA5 f (caps.toList.map a.eval))) ?_ (.clo f _ _ (by simpa using g1) g2) hn
   rw[yv8 hlt,yq9 hlt,yu3 hlt]
   have h1:first.map a.eval=#[]:=by
    have:first=#[]:=by simpa using hf
    rw[this]; simp
   have h2:caps.map a.eval=(caps.toList.map a.eval).toArray:=by
    apply Array.ext'
    simp
   rw[h1,h2]
   rfl
  ·split at ht
   case isFalse=>cases ht
   rename_i hf
   simp only[Ywi]at ht
   obtain⟨l,hl,rfl⟩:=ht
   simp only[POp.exec,Ywh,Ywj]at hx
   obtain⟨rfl,rfl⟩:=hx
   obtain⟨g1,g2⟩:=yir hev hl
   refine yaw (s:=Instr.makeFunc (.func f) (first.map a.eval) (caps.map a.eval)) hS rfl (v:=.func (fnOf (f+5000000)) (ysx (f+5000000) (first.toList.map a.eval)) (yA5 (f+5000000) (first.toList.map a.eval))) ?_ (.clo (f+5000000) _ _ (by simpa using g1) g2) hn
   rw[yPz hlt,yAk hlt,yDb hlt]
   have h1:caps.map a.eval=#[]:=by
    have:caps=#[]:=by simpa using hf
    rw[this]; simp
   have h2:first.map a.eval=(first.toList.map a.eval).toArray:=by
    apply Array.ext'
    simp
   rw[h1,h2]
   rfl
 |_=>simp[trOp]at ht
def Wr(r:Option Nat):Fence:={Fence.wide with round:=r}
theorem yhq{r:Option Nat}(hd:∀ c,o.op≠.defer c)(h:o.wp P a w next Q):o.wpIn (Wr r) 0 P a w next Q:=by
 refine⟨fun _ _=>trivial,?_⟩
 rw[Oper.semAt_eq _ _ _ hd]
 unfold Oper.wp at h
 generalize (execOp a.eval o).run P w=x at h ⊢
 cases x with
 |ok n w'=>
  cases n <;> simp only[Oper.upon]at h <;> simp only[Oper.uponIn] <;> first
   |exact h
   |exact h.elim
   |exact⟨(fun e=>by cases e),callsIn_wide.2 h⟩
   |exact⟨(fun e=>by cases e),fun c cs _=>let⟨v,w',r,s⟩:=h c cs; ⟨v,w',r,stepsIn_wide.2 s⟩⟩
 |halt x w'=>cases x <;> simp only[Oper.upon]at h <;> simp only[Oper.uponIn] <;> first | exact h | exact h.elim
theorem YOK.none{G:Glob}{w0:World}{g0:Ghost}{st0:St}:YOK P G (fun _ _ _=>none) base w0 g0 st0:=fun _ _ _ _ _ _ _ _ _ _ h=>by cases h
theorem yUr{r:Option Nat}{c:Call}{x:Operand}{l:Nat}{vs:List Value}(hop:o.op=.call c)(hc:c.callee=.value x)(hx:a.eval x=.func (.yield l) #[] #[])(hvs:c.args.toList.map a.eval=vs)
  (h:yKt P base w g st st' l vs d) (hn:∀ v w' g',Go1 base w g st w' g' st'→RepV w' g' st' d v→next (a.put o.dst v) w'):o.wpIn (Wr r) 0 P a w next Q:=by
 obtain⟨f,tmps,assign,body,h1,h2⟩:=h
 refine⟨fun _ _=>trivial,?_⟩
 rw[Oper.semAt_eq _ _ _ (fun c' e=>by rw[hop]at e; cases e)]
 have hex:execOp a.eval o=Instr.yield l vs.toArray:=by
  obtain⟨dst,op,ty,pos,after,guard⟩:=o
  simp only at hop
  subst hop
  have h3:vs.toArray=c.args.map a.eval:=by
   apply Array.ext'
   simp[← hvs]
  simp only[execOp,resolve,hc,hx,Deferred.ofValue,h3,Array.empty_append]
  show invoke (Target.fn (Fn.yield l) #[]) (c.args.map a.eval)=_
  simp[invoke]
 rw[hex,h1,Oper.uponIn_round]
 refine⟨(fun e=>by cases e),?_⟩
 refine RoundIn.mono (F:=Wr r) (n:=0) h2 ?_
 rintro e w' ⟨v,g',rfl,h3,h4⟩
 exact hn v w' g' h3 h4
theorem Ysx{G:Glob}{T:Tbl}{fr:Frame}{p:POp}(hT:TblOK P G T)(hS:SR base w g st)(hG:GlobOK G w g)(hF:FR w g st fr a)(ht:trOp P il o.op=some p)(hny:∀ x args f caps,p=.callv x args→rho G fr x=.clo f caps→f<10000000)(hx:p.exec T (rho G fr) st=some (d,st'))
  (hn:∀ v w' g',Go1 base w g st w' g' st'→RepV w' g' st' d v→next (a.put o.dst v) w'):o.wp P a w next Q:=by
 obtain⟨dst,op,ty,pos,after,guard⟩:=o
 cases op with
 |move x=>exact Ydu x hT hS hG hF ht hx hn
 |assign x=>exact yRe x hT hS hG hF ht hx hn
 |pick c x y=>exact Ydt c x y hT hS hG hF ht hx hn
 |alloc t=>exact yV0 t hT hS hG hF ht hx hn
 |box t x=>exact Ylr t x hT hS hG hF ht hx hn
 |build t parts=>exact yVy t parts hT hS hG hF ht hx hn
 |buildSlice t len parts=>exact yBr t len parts hT hS hG hF ht hx hn
 |load t x=>exact Ydv t x hT hS hG hF ht hx hn
 |store t x y=>exact yVu t x y hT hS hG hF ht hx hn
 |nilCheck x=>exact yHv x hT hS hG hF ht hx hn
 |binOp op t x y yt=>exact yVz op t x y yt hT hS hG hF ht hx hn
 |unOp op t x=>exact Yds op t x hT hS hG hF ht hx hn
 |convert src dt x=>exact yLn src dt x hT hS hG hF ht hx hn
 |makeSlice t l c=>exact yEu t l c hT hS hG hF ht hx hn
 |slice t x lo hi mx=>exact yVv t x lo hi mx hT hS hG hF ht hx hn
 |fieldAddr s x f=>exact yEw s x f hT hS hG hF ht hx hn
 |field s x f=>exact yVx s x f hT hS hG hF ht hx hn
 |indexAddr t x i=>exact yEv t x i hT hS hG hF ht hx hn
 |index t x i=>exact yVw t x i hT hS hG hF ht hx hn
 |extract x i=>exact yLm x i hT hS hG hF ht hx hn
 |mapUpdate t m k v=>exact yEt t m k v hT hS hG hF ht hx hn
 |insert t m k v=>exact yRd t m k v hT hS hG hF ht hx hn
 |lookup t m k ok=>exact yRc t m k ok hT hS hG hF ht hx hn
 |makeMap t rs=>exact yLk t rs hT hS hG hF ht hx hn
 |call c=>exact Ydw c hT hS hG hF ht hny hx hn
 |makeFunc fn first caps=>exact yHw fn first caps hT hS hG hF ht hx hn
 |_=>simp[trOp]at ht
theorem Yfc{G:Glob}{T:Tbl}{fr:Frame}{p:POp}{r:Option Nat}{w0:World}{g0:Ghost}{st0:St}(hT:TblOK P G T)(hY:YOK P G T.y base w0 g0 st0)(hgo:Go1 base w0 g0 st0 w g st)(hG:GlobOK G w g)(hF:FR w g st fr a)(ht:trOp P il o.op=some p)(hx:p.exec T (rho G fr) st=some (d,st'))
  (hn:∀ v w' g',Go1 base w g st w' g' st'→RepV w' g' st' d v→next (a.put o.dst v) w'):o.wpIn (Wr r) 0 P a w next Q:=by
 have hnd:∀ c,o.op≠.defer c:=fun c e=>by rw[e]at ht; simp[trOp]at ht
 by_cases hc:∃ x args f caps,p=.callv x args∧rho G fr x=.clo f caps∧¬ f<10000000
 ·obtain⟨x,args,f,caps,rfl,hclo,hlt⟩:=hc
  have hlt5:¬ f<5000000:=by omega
  simp only[POp.exec,hclo,if_neg hlt,if_neg hlt5]at hx
  split at hx
  case isFalse=>cases hx
  rename_i hce
  obtain rfl:caps=[]:=by simpa using hce
  have hinv:∃ c xo,o.op=.call c∧c.callee=.value xo∧trA xo=some x∧trAs c.args.toList=some args:=by
   clear hn hx hnd
   generalize o.op=op at ht
   cases op with
   |call c=>
    simp only[trOp]at ht
    split at ht
    ·rename_i b hb
     unfold yts at ht
     repeat' split at ht
     all_goals first | cases ht | (simp at ht; done) | skip
    ·split at ht
     case h_2=>cases ht
     split at ht
     case isFalse=>
      split at ht <;> cases ht
     simp only[Ywh]at ht
     split at ht
     ·cases ht
     ·split at ht
      ·cases ht
      ·split at ht <;> cases ht
    ·rename_i xo hnf hcal
     split at ht
     case h_2=>cases ht
     rename_i pa l hpa hl
     simp only[Ywh,POp.callv.injEq]at ht
     obtain⟨rfl,rfl⟩:=ht
     exact⟨c,xo,rfl,hcal,hpa,hl⟩
    ·cases ht
   |_=>exfalso; revert ht; simp only[trOp,Yc9,yN4,yD4]; (repeat' split) <;> first | (simp; done) | (intro h; cases h; done) | (intro h; simp only[Ywi]at h; obtain⟨_,_,h⟩:=h; cases h; done) | (intro _; contradiction)
  obtain⟨c,xo,h1,h2,h4,h5⟩:=hinv
  have hr:=ybf hG hF h4
  rw[hclo]at hr
  obtain⟨e1,e2⟩:=yir (fun x pa h=>ybf (G:=G) hG hF h) h5
  generalize hxv:a.eval xo=xv at hr
  cases hr with
  |clo _ _ us hlen hus=>
   obtain rfl:us=[]:=List.eq_nil_of_length_eq_zero hlen.symm
   rw[ysw,ywe]at hxv
   unfold fnOf at hxv
   rw[if_neg hlt5,if_neg hlt]at hxv
   refine yUr (vs:=c.args.toList.map a.eval) h1 h2 hxv rfl (hY _ w g st st' _ _ d hgo hG hx (by simpa using e1) e2) hn
 ·refine yhq hnd ?_
  exact Ysx hT hgo.sr hG hF ht (fun x args f caps e1 e2=>Classical.byContradiction fun e3=>hc ⟨x,args,f,caps,e1,e2,e3⟩) hx hn
end
end Go.Proofs.YtijnglngaogdjaaGreatDoor.PI
namespace Go.Proofs.YtijnglngaogdjaaGreatDoor.PI
open Go Go.RowKit
def POp.cls:POp→Nat
 |.mov _ | .pick _ _ _ | .bld _ _ | .bin _ _ _ | .beq _ _ _ | .aeq _ _ _ _ | .un _ _ | .sliceA _ _ _ _ _ _ | .fldv _ _ _ _ | .idx _ _ | .idxV _ _ _ _ _ | .lenA _ | .mm _ _ _ | .mm3 _ _ _ _ | .ext _ _ | .mkclo _ _=>0
 |.conv c _=>match c with
  |.str=>1
  |_=>0
 |.load _ _ _ | .nilc _ | .slice _ _ _ _ _ | .fld _ _ | .idxS _ _ _ | .idxA _ _ _ _ | .len _ _ | .mapget _ _ _ _ _ _ | .rcall _ _=>1
 |.bslc _ _ | .call _ _=>2
 |.box _ | .stor _ _ _ | .mkslc _ _ _ _ _ | .app _ _ _ _ | .icall _ _ | .mcall _ _ | .callv _ _ | .mkmap _ | .mapup _ _ _ _ _ | .cpy _ _ _ | .fail=>3
def PA.slot:PA→List Nat
 |.s n=>[n]
 |_=>[]
def PI.reads(i:PI):List Nat:=i.op.args.flatMap PA.slot++(optL i.guard).map (·.1)
def POp.push:POp→Bool
 |.box _ | .mkslc _ _ _ _ _=>true
 |_=>false
def PI.apart(x y:PI):Bool:=
 (match x.dst with
  |some d=>!(y.reads.contains d) && y.dst != some d
  |none=>true) &&
 (match y.dst with
  |some d=>!(x.reads.contains d)
  |none=>true) &&
 (x.op.cls == 0 || y.op.cls == 0 || (decide (x.op.cls≤2) && (decide (y.op.cls≤2) || y.op.push)))
theorem ydm{α β:Type}{f g:α→β}:∀ {l:List α},(∀ x∈l,f x=g x)→l.map f=l.map g:=fun h=>List.map_congr_left h
theorem yTq{T:Tbl}{ρ ρ':PA→D}{st:St}(p:POp)(h:∀ x∈p.args,ρ x=ρ' x):p.exec T ρ st=p.exec T ρ' st:=by
 have opt:∀ (o:Option PA),(∀ x∈optL o,ρ x=ρ' x)→o.map ρ=o.map ρ':=by
  intro o ho
  cases o with
  |none=>rfl
  |some x=>simp[ho x (by simp[optL])]
 cases p with
 |bld zero parts=>
  have:(parts.map fun p=>(p.1,p.2.1,ρ p.2.2))=parts.map fun p=>(p.1,p.2.1,ρ' p.2.2):=ydm fun q hq=>by
   rw[h q.2.2 (by simp only[POp.args,List.mem_map]; exact⟨q,hq,rfl⟩)]
  simp only[POp.exec,this]
 |bslc sz parts=>
  have:parts.map ρ=parts.map ρ':=ydm fun q hq=>h q hq
  simp only[POp.exec,this]
 |call f args=>
  have:args.map ρ=args.map ρ':=ydm fun q hq=>h q hq
  simp only[POp.exec,this]
 |icall f args=>
  have:args.map ρ=args.map ρ':=ydm fun q hq=>h q hq
  simp only[POp.exec,this]
 |mcall f args=>
  have:args.map ρ=args.map ρ':=ydm fun q hq=>h q hq
  simp only[POp.exec,this]
 |rcall f args=>
  have:args.map ρ=args.map ρ':=ydm fun q hq=>h q hq
  simp only[POp.exec,this]
 |mkclo f args=>
  have:args.map ρ=args.map ρ':=ydm fun q hq=>h q hq
  simp only[POp.exec,this]
 |callv x args=>
  have:args.map ρ=args.map ρ':=ydm fun q hq=>h q (by simp[POp.args,hq])
  simp only[POp.exec,this,h x (by simp[POp.args])]
 |slice sz x lo hi mx=>
  simp only[POp.args,List.mem_cons,List.mem_append]at h
  simp only[POp.exec,h x (.inl rfl),opt lo (fun y hy=>h y (.inr (.inl (.inl hy)))),opt hi (fun y hy=>h y (.inr (.inl (.inr hy)))),opt mx (fun y hy=>h y (.inr (.inr hy)))]
 |sliceA n sz ag x lo hi=>
  simp only[POp.args,List.mem_cons,List.mem_append]at h
  simp only[POp.exec,h x (.inl rfl),opt lo (fun y hy=>h y (.inr (.inl hy))),opt hi (fun y hy=>h y (.inr (.inr hy)))]
 |_=>
  simp only[POp.args,List.mem_cons,List.not_mem_nil,or_false,forall_eq_or_imp,forall_eq]at h
  simp only[POp.exec,h]
abbrev lend1(k:Nat)(st:St):St:=st.modify k fun o=>{o with lent:=true}
theorem yv4(st:St)(k key tot:Nat):live (lend1 k st) key tot=live st key tot:=by
 unfold live
 rw[yc0]
 cases st[key]? with
 |none=>rfl
 |some o=>by_cases e:k=key <;> simp[e]
theorem yRi(st:St)(k:Nat)(d:D):sLen (lend1 k st) d=sLen st d:=by
 cases d <;> simp only[sLen,yv4]
theorem yMa(st:St)(k:Nat)(c:PConv)(d:D):yde (lend1 k st) c d=yde st c d:=by
 cases c <;> cases d <;> simp only[yde,yws]
theorem yH8(st:St)(k sz:Nat)(x:D)(lo hi mx:Option D):yc6 (lend1 k st) sz x lo hi mx=yc6 st sz x lo hi mx:=by
 cases x with
 |row key tot off len=>
  simp only[yc6,yc0]
  cases st[key]? with
  |none=>rfl
  |some o=>by_cases e:k=key <;> simp[e]
 |_=>simp only[yc6]
theorem yL7(st:St)(k sz:Nat)(x i:D):yfw (lend1 k st) sz x i=yfw st sz x i:=by
 unfold yfw
 cases yd5 i with
 |none=>rfl
 |some j=>
  cases x with
  |row key tot off len=>
   simp only[yc0]
   cases st[key]? with
   |none=>rfl
   |some o=>by_cases e:k=key <;> simp[e]
  |_=>rfl
theorem yCj(st:St)(k off:Nat)(x:D):pfld (lend1 k st) off x=pfld st off x:=by
 cases x <;> simp only[pfld,yv4]
theorem yL8(st:St)(k n sz:Nat)(x i:D):ymn (lend1 k st) n sz x i=ymn st n sz x i:=by
 simp only[ymn,yCj]
theorem yL4(st:St)(k n:Nat)(ag:Bool)(p:D):ydd (lend1 k st) n ag p=ydd st n ag p:=by
 cases p with
 |ptr key off=>
  simp only[ydd,yc0]
  cases st[key]? with
  |none=>rfl
  |some o=>by_cases e:k=key <;> simp[e]
 |rptr key tot i off=>
  simp only[ydd,yc0]
  cases st[key]? with
  |none=>rfl
  |some o=>by_cases e:k=key <;> simp[e]
 |_=>simp only[ydd]
theorem yFb(st:St)(k0 sz:Nat)(ks:List Nat)(ok:Bool)(zero m k:D):ydz (lend1 k0 st) sz ks ok zero m k=ydz st sz ks ok zero m k:=by
 cases m with
 |mapv key=>
  simp only[ydz,yc0]
  cases st[key]? with
  |none=>rfl
  |some o=>by_cases e:k0=key <;> simp[e,Obj.isMap]
 |_=>simp only[ydz]
theorem ySy(a b:Nat)(st:St):lend1 a (lend1 b st)=lend1 b (lend1 a st):=by
 apply List.ext_getElem?
 intro i
 simp only[yc0]
 cases st[i]? with
 |none=>rfl
 |some o=>by_cases e:a=i <;> by_cases e':b=i <;> simp[e,e']
theorem yq4(a:Nat):∀ (ks:List Nat) (st:St),lend ks (lend1 a st)=lend1 a (lend ks st)
 |[],_=>rfl
 |k::r,st=>by
  show lend r (lend1 k (lend1 a st))=lend1 a (lend r (lend1 k st))
  rw[ySy,yq4 a r]
theorem yzz:∀ (ks qs:List Nat) (st:St),lend ks (lend qs st)=lend qs (lend ks st)
 |[],_,_=>rfl
 |k::r,qs,st=>by
  show lend r (lend1 k (lend qs st))=lend qs (lend r (lend1 k st))
  rw[← yq4,yzz r qs]
theorem yZo(st:St)(k key:Nat):((lend1 k st)[key]?).map Obj.see=(st[key]?).map Obj.see:=by
 rw[yc0]
 cases st[key]? with
 |none=>rfl
 |some o=>by_cases e:k=key <;> simp[e,Obj.see]
theorem yCd(st:St)(k:Nat):∀ l:List Nat,sees (lend1 k st) l=sees st l
 |[]=>rfl
 |a::l=>by simp only[sees,yZo,yCd st k l]
theorem yI9(st:St)(k key:Nat):((lend1 k st)[key]?).isSome=(st[key]?).isSome:=by
 rw[yc0]
 cases st[key]? <;> rfl
theorem yH7(st:St)(k:Nat)(sp:List D→List (Option (Bool×Nat×List D))→Option D)(ds:List D):yfr sp ds (lend1 k st)=yfr sp ds st:=by
 unfold yfr
 simp only[yI9,yCd]
theorem yTp{T:Tbl}{ρ:PA→D}(p:POp)(hc:p.cls≤2)(k:Nat)(st:St):p.exec T ρ (lend1 k st)=(p.exec T ρ st).map fun r=>(r.1,lend1 k r.2):=by
 have mp:∀ {α:Type} (o:Option α) (f:α→D),(o.map fun x=>(f x,lend1 k st))=(o.map fun x=>(f x,st)).map fun r=>(r.1,lend1 k r.2):=by
  intro α o f
  cases o <;> rfl
 cases p with
 |mov x=>rfl
 |pick c x y=>simp only[POp.exec]; split <;> rfl
 |box x=>simp[POp.cls]at hc
 |bld zero parts=>simp only[POp.exec]; exact mp _ _
 |bslc sz parts=>
  simp only[POp.exec,yq7]
  split
  ·split
   ·simp only[Option.map_some,yq4]
   ·rfl
  ·rfl
 |load n ag x=>simp only[POp.exec,yL4]; exact mp _ _
 |stor n p x=>simp[POp.cls]at hc
 |nilc x=>
  simp only[POp.exec,yv4]
  split
  ·rfl
  ·rfl
  ·split <;> rfl
  ·rfl
 |bin op x y=>simp only[POp.exec]; exact mp _ _
 |beq neg x y=>simp only[POp.exec]; exact mp _ _
 |aeq ks neg x y=>simp only[POp.exec]; exact mp _ _
 |un op x=>simp only[POp.exec]; exact mp _ _
 |conv c x=>simp only[POp.exec,yMa]; exact mp _ _
 |mkslc sz bytes zero l c=>simp[POp.cls]at hc
 |slice sz x lo hi mx=>simp only[POp.exec,yH8]; exact mp _ _
 |sliceA n sz ag x lo hi=>simp only[POp.exec]; exact mp _ _
 |fld off x=>simp only[POp.exec,yCj]; exact mp _ _
 |fldv off n ag x=>simp only[POp.exec]; exact mp _ _
 |idxS sz x i=>simp only[POp.exec,yL7]; exact mp _ _
 |idxA n sz x i=>simp only[POp.exec,yL8]; exact mp _ _
 |idx x i=>simp only[POp.exec]; exact mp _ _
 |idxV l sz ag x i=>simp only[POp.exec]; exact mp _ _
 |len str x=>
  simp only[POp.exec,yRi]
  split
  ·cases sLen st (ρ x) <;> rfl
  ·rfl
 |lenA n=>rfl
 |app sz bytes s x=>simp[POp.cls]at hc
 |mm mx x y=>simp only[POp.exec]; split <;> rfl
 |mm3 mx x y z=>simp only[POp.exec]; split <;> rfl
 |rcall f args=>
  simp only[POp.exec,yH7]
  split
  ·exact mp _ _
  ·rfl
 |icall f args=>simp[POp.cls]at hc
 |mcall f args=>simp[POp.cls]at hc
 |fail=>simp[POp.cls]at hc
 |mkmap sz=>simp[POp.cls]at hc
 |mapup sz ks m k v=>simp[POp.cls]at hc
 |cpy sz d s=>simp[POp.cls]at hc
 |mapget sz ks ok zero m k=>simp only[POp.exec,yFb]; exact mp _ _
 |callv x args=>simp[POp.cls]at hc
 |mkclo f args=>rfl
 |call f args=>
  simp only[POp.exec,yq7]
  split
  ·split
   ·split
    ·rfl
    ·simp only[Option.map_some,yq4]
   ·rfl
  ·rfl
 |ext x i=>
  simp only[POp.exec]
  split
  ·exact mp _ id
  ·rfl
theorem yAq{T:Tbl}{ρ:PA→D}(p:POp)(hc:p.cls≤2):∀ (ks:List Nat) (st:St),p.exec T ρ (lend ks st)=(p.exec T ρ st).map fun r=>(r.1,lend ks r.2)
 |[],st=>by cases h:p.exec T ρ st <;> simp[lend,h]
 |k::r,st=>by
  show p.exec T ρ (lend r (lend1 k st))=_
  rw[yAq p hc r,yTp p hc k st]
  cases p.exec T ρ st <;> rfl
theorem yuw{T:Tbl}{ρ:PA→D}{st st':St}{d:D}(p:POp)(hc:p.cls≤2)(h:p.exec T ρ st=some (d,st')):∃ ks,st'=lend ks st:=by
 have mp:∀ {α:Type} (o:Option α) (f:α→D),(o.map fun x=>(f x,st))=some (d,st')→∃ ks,st'=lend ks st:=by
  intro α o f h
  simp only[Ywi,Ywj]at h
  obtain⟨_,_,_,rfl⟩:=h
  exact⟨[],rfl⟩
 cases p with
 |mov x=>simp only[POp.exec,Ywh,Ywj]at h; exact⟨[],h.2.symm⟩
 |pick c x y=>
  simp only[POp.exec]at h
  split at h
  ·simp only[Ywh,Ywj]at h; exact⟨[],h.2.symm⟩
  ·cases h
 |box x=>simp[POp.cls]at hc
 |bld zero parts=>simp only[POp.exec]at h; exact mp _ _ h
 |bslc sz parts=>
  simp only[POp.exec]at h
  split at h
  ·split at h
   ·simp only[Ywh,Ywj]at h; exact⟨_,h.2.symm⟩
   ·cases h
  ·cases h
 |load n ag x=>simp only[POp.exec]at h; exact mp _ _ h
 |stor n p x=>simp[POp.cls]at hc
 |nilc x=>
  simp only[POp.exec]at h
  split at h
  ·simp only[Ywh,Ywj]at h; exact⟨[],h.2.symm⟩
  ·simp only[Ywh,Ywj]at h; exact⟨[],h.2.symm⟩
  ·split at h
   ·simp only[Ywh,Ywj]at h; exact⟨[],h.2.symm⟩
   ·cases h
  ·cases h
 |bin op x y=>simp only[POp.exec]at h; exact mp _ _ h
 |beq neg x y=>simp only[POp.exec]at h; exact mp _ _ h
 |aeq ks neg x y=>simp only[POp.exec]at h; exact mp _ _ h
 |un op x=>simp only[POp.exec]at h; exact mp _ _ h
 |conv c x=>simp only[POp.exec]at h; exact mp _ _ h
 |mkslc sz bytes zero l c=>simp[POp.cls]at hc
 |slice sz x lo hi mx=>simp only[POp.exec]at h; exact mp _ _ h
 |sliceA n sz ag x lo hi=>simp only[POp.exec]at h; exact mp _ _ h
 |fld off x=>simp only[POp.exec]at h; exact mp _ _ h
 |fldv off n ag x=>simp only[POp.exec]at h; exact mp _ _ h
 |idxS sz x i=>simp only[POp.exec]at h; exact mp _ _ h
 |idxA n sz x i=>simp only[POp.exec]at h; exact mp _ _ h
 |idx x i=>simp only[POp.exec]at h; exact mp _ _ h
 |idxV l sz ag x i=>simp only[POp.exec]at h; exact mp _ _ h
 |len str x=>
  simp only[POp.exec]at h
  split at h
  ·exact mp _ (fun n:Nat=>D.int .i64 (n:Int)) h
  ·cases h
 |lenA n=>simp only[POp.exec,Ywh,Ywj]at h; exact⟨[],h.2.symm⟩
 |app sz bytes s x=>simp[POp.cls]at hc
 |mm mx x y=>
  simp only[POp.exec]at h
  split at h
  ·simp only[Ywh,Ywj]at h; exact⟨[],h.2.symm⟩
  ·cases h
 |mm3 mx x y z=>
  simp only[POp.exec]at h
  split at h
  ·simp only[Ywh,Ywj]at h; exact⟨[],h.2.symm⟩
  ·cases h
 |rcall f args=>
  simp only[POp.exec]at h
  split at h
  ·exact mp _ id (by simpa using h)
  ·cases h
 |icall f args=>simp[POp.cls]at hc
 |mcall f args=>simp[POp.cls]at hc
 |fail=>simp[POp.cls]at hc
 |mkmap sz=>simp[POp.cls]at hc
 |mapup sz ks m k v=>simp[POp.cls]at hc
 |cpy sz d s=>simp[POp.cls]at hc
 |mapget sz ks ok zero m k=>simp only[POp.exec]at h; exact mp _ _ h
 |callv x args=>simp[POp.cls]at hc
 |mkclo f args=>simp only[POp.exec,Ywh,Ywj]at h; exact⟨[],h.2.symm⟩
 |call f args=>
  simp only[POp.exec]at h
  split at h
  ·split at h
   ·simp only[Ywh,Ywj]at h
    obtain⟨_,rfl⟩:=h
    split
    ·exact⟨[],rfl⟩
    ·exact⟨_,rfl⟩
   ·cases h
  ·cases h
 |ext x i=>
  simp only[POp.exec]at h
  split at h
  ·exact mp _ id h
  ·cases h
theorem yAp{T:Tbl}{ρ:PA→D}{st st':St}{d:D}(p:POp)(hc:p.cls=0)(h:p.exec T ρ st=some (d,st')):st'=st∧∀ st2,p.exec T ρ st2=some (d,st2):=by
 have mp:∀ {α:Type} (o:Option α) (f:α→D),(o.map fun x=>(f x,st))=some (d,st')→st'=st∧∀ st2:St,(o.map fun x=>(f x,st2))=some (d,st2):=by
  intro α o f h
  simp only[Ywi,Ywj]at h
  obtain⟨x,hx,h1,rfl⟩:=h
  exact⟨rfl,fun st2=>by rw[hx]; simp[h1]⟩
 cases p with
 |mov x=>simp only[POp.exec,Ywh,Ywj]at h ⊢; exact⟨h.2.symm,fun st2=>⟨h.1,trivial⟩⟩
 |pick c x y=>
  simp only[POp.exec]at h ⊢
  split at h
  ·rename_i b hb
   simp only[Ywh,Ywj]at h
   exact⟨h.2.symm,fun st2=>by rw[← h.1]⟩
  ·cases h
 |bld zero parts=>simp only[POp.exec]at h ⊢; exact mp _ _ h
 |bin op x y=>simp only[POp.exec]at h ⊢; exact mp _ _ h
 |beq neg x y=>simp only[POp.exec]at h ⊢; exact mp _ _ h
 |aeq ks neg x y=>simp only[POp.exec]at h ⊢; exact mp _ _ h
 |un op x=>simp only[POp.exec]at h ⊢; exact mp _ _ h
 |conv c x=>
  cases c with
  |str=>simp[POp.cls]at hc
  |int k=>
   have e:∀ st2,yde st2 (.int k) (ρ x)=yde st (.int k) (ρ x):=fun st2=>by cases ρ x <;> simp only[yde]
   simp only[POp.exec]at h ⊢
   obtain⟨h1,h2⟩:=mp _ _ h
   exact⟨h1,fun st2=>by rw[e]; exact h2 st2⟩
  |bytes=>
   have e:∀ st2,yde st2 .bytes (ρ x)=yde st .bytes (ρ x):=fun st2=>by cases ρ x <;> simp only[yde]
   simp only[POp.exec]at h ⊢
   obtain⟨h1,h2⟩:=mp _ _ h
   exact⟨h1,fun st2=>by rw[e]; exact h2 st2⟩
  |same=>
   have e:∀ st2,yde st2 .same (ρ x)=yde st .same (ρ x):=fun st2=>by cases ρ x <;> simp only[yde]
   simp only[POp.exec]at h ⊢
   obtain⟨h1,h2⟩:=mp _ _ h
   exact⟨h1,fun st2=>by rw[e]; exact h2 st2⟩
 |sliceA n sz ag x lo hi=>simp only[POp.exec]at h ⊢; exact mp _ _ h
 |fldv off n ag x=>simp only[POp.exec]at h ⊢; exact mp _ _ h
 |idx x i=>simp only[POp.exec]at h ⊢; exact mp _ _ h
 |idxV l sz ag x i=>simp only[POp.exec]at h ⊢; exact mp _ _ h
 |mkclo f args=>simp only[POp.exec,Ywh,Ywj]at h ⊢; exact⟨h.2.symm,fun st2=>⟨h.1,trivial⟩⟩
 |lenA n=>simp only[POp.exec,Ywh,Ywj]at h ⊢; exact⟨h.2.symm,fun st2=>⟨h.1,trivial⟩⟩
 |mm mx x y=>
  simp only[POp.exec]at h ⊢
  split at h
  ·simp only[Ywh,Ywj]at h
   exact⟨h.2.symm,fun st2=>by rw[← h.1]⟩
  ·cases h
 |mm3 mx x y z=>
  simp only[POp.exec]at h ⊢
  split at h
  ·simp only[Ywh,Ywj]at h
   exact⟨h.2.symm,fun st2=>by rw[← h.1]⟩
  ·cases h
 |ext x i=>
  simp only[POp.exec]at h ⊢
  split at h
  ·exact mp _ id h
  ·cases h
 |_=>simp[POp.cls]at hc
theorem yxw(fr:Frame){x y:Option Nat}(u v:D)(h:∀ d,x=some d→y≠some d):(fr.put x u).put y v=(fr.put y v).put x u:=by
 cases x with
 |none=>rfl
 |some a=>
  cases y with
  |none=>rfl
  |some b=>
   have hne:a≠b:=fun e=>h a rfl (e ▸ rfl)
   funext t
   simp only[Frame.put,Frame.set]
   by_cases e1:t=a <;> by_cases e2:t=b <;> simp_all
theorem yib{st:St}{k:Nat}{a:Obj}(o:Obj)(h:st[k]?=some a):(st++[o])[k]?=some a:=by
 rw[List.getElem?_append_left (List.getElem?_eq_some_iff.1 h).1]; exact h
theorem yzd{st:St}{key tot off len:Nat}{r:Nat×List D}(o:Obj)(h:yec st key tot off len=some r):yec (st++[o]) key tot off len=some r:=by
 unfold yec at h ⊢
 split at h
 ·rename_i a ha
  rw[yib o ha]; exact h
 ·cases h
theorem Yb1{st:St}{key off n sz:Nat}{ag:Bool}{r:List D}(o:Obj)(h:bslI st key off n sz ag=some r):bslI (st++[o]) key off n sz ag=some r:=by
 unfold bslI ylf at h ⊢
 cases hk:st[key]? with
 |none=>simp[hk]at h
 |some a=>
  rw[yib o hk]
  rw[hk]at h
  exact h
theorem yJg{st:St}{d y:D}(o:Obj)(h:imm1 st d=some y):imm1 (st++[o]) d=some y:=by
 cases d <;> simp only[imm1]at h ⊢ <;> first
  |exact h
  |(simp only[Ywi]at h ⊢
    obtain⟨r,h1,h2⟩:=h
    exact⟨r,yzd o h1,h2⟩)
  |(simp only[Ywi]at h ⊢
    obtain⟨r,h1,h2⟩:=h
    exact⟨r,Yb1 o h1,h2⟩)
theorem yJc{st:St}(o:Obj):∀ {ds ys:List D},immL st ds=some ys→immL (st++[o]) ds=some ys
 |[],ys,h=>h
 |d::l,ys,h=>by
  simp only[immL]at h ⊢
  split at h
  ·rename_i x y hx hy
   rw[yJg o hx,yJc o hy]; exact h
  ·cases h
theorem Ygj{st:St}{d y:D}(o:Obj)(h:imm st d=some y):imm (st++[o]) d=some y:=by
 cases d <;> simp only[imm]at h ⊢ <;> first
  |exact yJg o h
  |(simp only[Ywi]at h ⊢
    obtain⟨r,h1,h2⟩:=h
    exact⟨r,yJc o h1,h2⟩)
  |(cases h; done)
theorem yz7{st:St}(o:Obj):∀ {ds ys:List D},imms st ds=some ys→imms (st++[o]) ds=some ys
 |[],ys,h=>h
 |d::l,ys,h=>by
  simp only[imms]at h ⊢
  split at h
  ·rename_i x y hx hy
   rw[Ygj o hx,yz7 o hy]; exact h
  ·cases h
theorem yzu{st:St}{key tot:Nat}(o:Obj)(h:live st key tot=true):live (st++[o]) key tot=true:=by
 unfold live at h ⊢
 split at h
 ·rename_i a ha
  rw[yib o ha]; exact h
 ·cases h
theorem yV8{st:St}{d:D}{n:Nat}(o:Obj)(h:sLen st d=some n):sLen (st++[o]) d=some n:=by
 cases d <;> simp only[sLen]at h ⊢ <;> first
  |exact h
  |(split at h
    ·rename_i hl
     rw[yzu o hl]; simpa using h
    ·cases h)
theorem yR9{st:St}{c:PConv}{d y:D}(o:Obj)(h:yde st c d=some y):yde (st++[o]) c d=some y:=by
 cases c <;> cases d <;> simp only[yde]at h ⊢ <;> first
  |exact h
  |(split at h
    ·rename_i sz els hr
     rw[yzd o hr]; exact h
    ·cases h)
theorem yLz{st:St}{sz:Nat}{x y:D}{lo hi mx:Option D}(o:Obj)(h:yc6 st sz x lo hi mx=some y):yc6 (st++[o]) sz x lo hi mx=some y:=by
 cases x with
 |row key tot off len=>
  simp only[yc6]at h ⊢
  split at h
  ·rename_i a ha
   rw[yib o ha]; exact h
  ·cases h
 |_=>simpa only[yc6]using h
theorem yR1{st:St}{sz:Nat}{x i y:D}(o:Obj)(h:yfw st sz x i=some y):yfw (st++[o]) sz x i=some y:=by
 unfold yfw at h ⊢
 cases hn:yd5 i with
 |none=>simp[hn]at h
 |some j=>
  rw[hn]at h
  cases x with
  |row key tot off len=>
   simp only at h ⊢
   split at h
   ·rename_i a ha
    rw[yib o ha]; exact h
   ·cases h
  |_=>exact h
theorem yIg{st:St}{off:Nat}{x y:D}(o:Obj)(h:pfld st off x=some y):pfld (st++[o]) off x=some y:=by
 cases x <;> simp only[pfld]at h ⊢ <;> first
  |exact h
  |(split at h
    ·rename_i hl
     rw[yzu o hl]; simpa using h
    ·cases h)
theorem yR3{st:St}{n sz:Nat}{x i y:D}(o:Obj)(h:ymn st n sz x i=some y):ymn (st++[o]) n sz x i=some y:=by
 unfold ymn at h ⊢
 cases hn:yd5 i with
 |none=>simp[hn]at h
 |some j=>
  rw[hn]at h
  simp only at h ⊢
  split at h
  ·rename_i hj
   rw[if_pos hj]; exact yIg o h
  ·cases h
theorem yRw{st:St}{n:Nat}{ag:Bool}{p y:D}(o:Obj)(h:ydd st n ag p=some y):ydd (st++[o]) n ag p=some y:=by
 unfold ydd at h ⊢
 split at h
 ·cases h
 ·rename_i hc
  rw[if_neg hc]
  cases p with
  |ptr key off=>
   simp only at h ⊢
   split at h
   ·rename_i a ha
    rw[yib o ha]; exact h
   ·cases h
  |rptr key tot i off=>
   simp only at h ⊢
   split at h
   ·rename_i a ha
    rw[yib o ha]; exact h
   ·cases h
  |_=>exact h
theorem yIa{st:St}{sz:Nat}{ks:List Nat}{ok:Bool}{zero m k y:D}(o:Obj)(h:ydz st sz ks ok zero m k=some y):ydz (st++[o]) sz ks ok zero m k=some y:=by
 unfold ydz at h ⊢
 cases m with
 |mapv key=>
  simp only at h ⊢
  split at h
  ·rename_i a ha
   rw[yib o ha]; exact h
  ·cases h
 |_=>exact h
theorem yJi{st:St}{d y:D}(h:imm1 st d=some y):∀ k∈key1 d,k<st.length:=by
 cases d with
 |row key tot off len=>
  simp only[imm1,Ywi]at h
  obtain⟨r,h1,_⟩:=h
  unfold yec at h1
  split at h1
  ·rename_i a ha
   intro k hk
   simp only[key1,List.mem_singleton]at hk
   subst hk
   exact(List.getElem?_eq_some_iff.1 ha).1
  ·cases h1
 |bsl key off n sz ag=>
  simp only[imm1,Ywi]at h
  obtain⟨r,h1,_⟩:=h
  intro k hk
  simp only[key1,List.mem_singleton]at hk
  subst hk
  unfold bslI ylf at h1
  cases ha:st[k]? with
  |none=>simp[ha]at h1
  |some a=>exact(List.getElem?_eq_some_iff.1 ha).1
 |_=>intro k hk; simp[key1]at hk
theorem yJe{st:St}:∀ {ds ys:List D},immL st ds=some ys→∀ k∈ds.flatMap key1,k<st.length
 |[],_,_=>fun k hk=>by simp at hk
 |d::l,ys,h=>by
  simp only[immL]at h
  split at h
  ·rename_i x y hx hy
   intro k hk
   simp only[List.flatMap_cons,List.mem_append]at hk
   rcases hk with hk | hk
   ·exact yJi hx k hk
   ·exact yJe hy k hk
  ·cases h
theorem Ygk{st:St}{d y:D}(h:imm st d=some y):∀ k∈keys d,k<st.length:=by
 cases d with
 |agg l=>
  simp only[imm,Ywi]at h
  obtain⟨r,h1,_⟩:=h
  exact yJe h1
 |tup l=>simp[imm]at h
 |_=>simp only[imm]at h; exact yJi h
theorem yz8{st:St}:∀ {ds ys:List D},imms st ds=some ys→∀ k∈ds.flatMap keys,k<st.length
 |[],_,_=>fun k hk=>by simp at hk
 |d::l,ys,h=>by
  simp only[imms]at h
  split at h
  ·rename_i x y hx hy
   intro k hk
   simp only[List.flatMap_cons,List.mem_append]at hk
   rcases hk with hk | hk
   ·exact Ygk hx k hk
   ·exact yz8 hy k hk
  ·cases h
theorem ye5:∀ (ks:List Nat) (st:St),(lend ks st).length=st.length
 |[],_=>rfl
 |k::r,st=>by rw[lend,ye5 r,List.length_modify]
theorem yzy{o:Obj}:∀ (ks:List Nat) (st:St),(∀ k∈ks,k<st.length)→lend ks (st++[o])=lend ks st++[o]
 |[],_,_=>rfl
 |k::r,st,h=>by
  have h1:(st++[o]).modify k (fun o=>{o with lent:=true})=st.modify k (fun o=>{o with lent:=true})++[o]:=by
   apply List.ext_getElem?
   intro i
   have hk:=h k (by simp)
   rw[List.getElem?_modify]
   rcases Nat.lt_or_ge i st.length with hi | hi
   ·rw[List.getElem?_append_left hi,List.getElem?_append_left (by rw[List.length_modify]; exact hi),List.getElem?_modify]
   ·rw[List.getElem?_append_right hi,List.getElem?_append_right (by rw[List.length_modify]; exact hi),List.length_modify]
    have:¬ k=i:=by omega
    simp[this]
  rw[lend,lend,h1,yzy r _ (fun q hq=>by rw[List.length_modify]; exact h q (by simp[hq]))]
theorem yHx{st:St}(o:Obj):∀ {l:List Nat},l.all (fun k=>(st[k]?).isSome)=true→sees (st++[o]) l=sees st l
 |[],_=>rfl
 |a::l,h=>by
  simp only[List.all_cons,Bool.and_eq_true]at h
  obtain⟨x,hx⟩:=Option.isSome_iff_exists.1 h.1
  simp only[sees,yib o hx,hx,yHx o h.2]
theorem yLx{st:St}(o:Obj){sp:List D→List (Option (Bool×Nat×List D))→Option D}{ds:List D}{d:D}(h:yfr sp ds st=some d):yfr sp ds (st++[o])=some d:=by
 unfold yfr at h ⊢
 split at h
 case isFalse=>cases h
 rename_i hc
 rw[if_pos (by
  rw[List.all_eq_true]at hc ⊢
  intro k hk
  obtain⟨x,hx⟩:=Option.isSome_iff_exists.1 (hc k hk)
  rw[yib o hx]; rfl),yHx o hc]
 exact h
theorem yZ8{T:Tbl}{ρ:PA→D}{st st':St}{d:D}{o:Obj}(p:POp)(hc:p.cls≤2)(h:p.exec T ρ st=some (d,st')):p.exec T ρ (st++[o])=some (d,st'++[o]):=by
 have mp:∀ {α:Type} (a b:Option α) (f:α→D),(∀ y,a=some y→b=some y)→(a.map fun x=>(f x,st))=some (d,st')→(b.map fun x=>(f x,st++[o]))=some (d,st'++[o]):=by
  intro α a b f hab h
  simp only[Ywi,Ywj]at h ⊢
  obtain⟨y,h1,h2,rfl⟩:=h
  exact⟨y,hab y h1,h2,rfl⟩
 cases p with
 |mov x=>simp only[POp.exec,Ywh,Ywj]at h ⊢; exact⟨h.1,by rw[h.2]⟩
 |pick c x y=>
  simp only[POp.exec]at h ⊢
  split at h
  ·simp only[Ywh,Ywj]at h ⊢; exact⟨h.1,by rw[h.2]⟩
  ·cases h
 |box x=>simp[POp.cls]at hc
 |bld zero parts=>simp only[POp.exec]at h ⊢; exact mp _ _ _ (fun _ h=>h) h
 |bslc sz parts=>
  simp only[POp.exec]at h ⊢
  split at h
  ·rename_i els he
   rw[yz7 o he]
   simp only
   split at h
   ·rename_i hif
    rw[if_pos hif]
    simp only[Ywh,Ywj]at h ⊢
    exact⟨h.1,by rw[← h.2,yzy _ _ (yz8 he)]⟩
   ·cases h
  ·cases h
 |load n ag x=>simp only[POp.exec]at h ⊢; exact mp _ _ _ (fun _ h=>yRw o h) h
 |stor n p x=>simp[POp.cls]at hc
 |nilc x=>
  simp only[POp.exec]at h ⊢
  split at h
  ·simp only[Ywh,Ywj]at h ⊢; exact⟨h.1,by rw[h.2]⟩
  ·simp only[Ywh,Ywj]at h ⊢; exact⟨h.1,by rw[h.2]⟩
  ·split at h
   ·rename_i hl
    rw[yzu o hl]
    simp only[Ywh,Ywj]at h
    simp[h.1,h.2]
   ·cases h
  ·cases h
 |bin op x y=>simp only[POp.exec]at h ⊢; exact mp _ _ _ (fun _ h=>h) h
 |beq neg x y=>simp only[POp.exec]at h ⊢; exact mp _ _ _ (fun _ h=>h) h
 |aeq ks neg x y=>simp only[POp.exec]at h ⊢; exact mp _ _ _ (fun _ h=>h) h
 |un op x=>simp only[POp.exec]at h ⊢; exact mp _ _ _ (fun _ h=>h) h
 |conv c x=>simp only[POp.exec]at h ⊢; exact mp _ _ _ (fun _ h=>yR9 o h) h
 |mkslc sz bytes zero l c=>simp[POp.cls]at hc
 |slice sz x lo hi mx=>simp only[POp.exec]at h ⊢; exact mp _ _ _ (fun _ h=>yLz o h) h
 |sliceA n sz ag x lo hi=>simp only[POp.exec]at h ⊢; exact mp _ _ _ (fun _ h=>h) h
 |fld off x=>simp only[POp.exec]at h ⊢; exact mp _ _ _ (fun _ h=>yIg o h) h
 |fldv off n ag x=>simp only[POp.exec]at h ⊢; exact mp _ _ _ (fun _ h=>h) h
 |idxS sz x i=>simp only[POp.exec]at h ⊢; exact mp _ _ _ (fun _ h=>yR1 o h) h
 |idxA n sz x i=>simp only[POp.exec]at h ⊢; exact mp _ _ _ (fun _ h=>yR3 o h) h
 |idx x i=>simp only[POp.exec]at h ⊢; exact mp _ _ _ (fun _ h=>h) h
 |idxV l sz ag x i=>simp only[POp.exec]at h ⊢; exact mp _ _ _ (fun _ h=>h) h
 |len str x=>
  simp only[POp.exec]at h ⊢
  split at h
  ·rename_i hs
   rw[if_pos hs]
   exact mp _ _ _ (fun _ h=>yV8 o h) h
  ·cases h
 |lenA n=>simp only[POp.exec,Ywh,Ywj]at h ⊢; exact⟨h.1,by rw[h.2]⟩
 |app sz bytes s x=>simp[POp.cls]at hc
 |mm mx x y=>
  simp only[POp.exec]at h ⊢
  split at h
  ·simp only[Ywh,Ywj]at h ⊢; exact⟨h.1,by rw[h.2]⟩
  ·cases h
 |mm3 mx x y z=>
  simp only[POp.exec]at h ⊢
  split at h
  ·simp only[Ywh,Ywj]at h ⊢; exact⟨h.1,by rw[h.2]⟩
  ·cases h
 |rcall f args=>
  simp only[POp.exec]at h ⊢
  split at h
  ·exact mp _ _ _ (fun _ h=>yLx o h) h
  ·cases h
 |icall f args=>simp[POp.cls]at hc
 |mcall f args=>simp[POp.cls]at hc
 |fail=>simp[POp.cls]at hc
 |mkmap sz=>simp[POp.cls]at hc
 |mapup sz ks m k v=>simp[POp.cls]at hc
 |cpy sz d s=>simp[POp.cls]at hc
 |mapget sz ks ok zero m k=>simp only[POp.exec]at h ⊢; exact mp _ _ _ (fun _ h=>yIa o h) h
 |callv x args=>simp[POp.cls]at hc
 |mkclo f args=>simp only[POp.exec,Ywh,Ywj]at h ⊢; exact⟨h.1,by rw[h.2]⟩
 |call f args=>
  simp only[POp.exec]at h ⊢
  split at h
  ·rename_i sp vs hsp hvs
   simp only[hsp,yz7 o hvs]
   split at h
   ·rename_i r hr
    simp only[Ywh,Ywj]at h ⊢
    refine⟨h.1,?_⟩
    rw[← h.2]
    split
    ·rfl
    ·rw[yzy _ _ (yz8 hvs)]
   ·cases h
  ·cases h
 |ext x i=>
  simp only[POp.exec]at h ⊢
  split at h
  ·exact mp _ _ id (fun _ h=>h) h
  ·cases h
theorem yWt{T:Tbl}{ρ:PA→D}{st st':St}{d:D}{p:POp}(hp:p.push=true)(h:p.exec T ρ st=some (d,st')):∃ o,∀ st1:St,st1.length=st.length→p.exec T ρ st1=some (d,st1++[o]):=by
 cases p with
 |box x=>
  simp only[POp.exec]at h ⊢
  split at h
  ·rename_i hc
   simp only[Ywh,Ywj]at h
   exact⟨_,fun st1 hl=>by rw[if_pos hc,hl,h.1]⟩
  ·cases h
 |mkslc sz bytes zero l c=>
  simp only[POp.exec]at h ⊢
  split at h
  ·split at h
   ·rename_i hc
    simp only[Ywh,Ywj]at h
    exact⟨_,fun st1 hl=>by rw[if_pos hc,hl,h.1]⟩
   ·cases h
  ·cases h
 |_=>simp[POp.push]at hp
theorem yWf{G:Glob}{fr:Frame}{dst:Option Nat}{d:D}{pa:PA}(h:∀ t,dst=some t→t∉pa.slot):rho G (fr.put dst d) pa=rho G fr pa:=by
 cases pa with
 |s n=>
  cases dst with
  |none=>rfl
  |some t=>
   have:n≠t:=fun e=>h t rfl (by simp[PA.slot,e])
   simp[rho,Frame.put,Frame.set,this]
 |_=>rfl
theorem yg4{G:Glob}{T:Tbl}{fr:Frame}{dst:Option Nat}{d:D}{st:St}{i:PI}(h:∀ t,dst=some t→t∉i.reads):i.op.exec T (rho G (fr.put dst d)) st=i.op.exec T (rho G fr) st:=by
 refine yTq i.op fun x hx=>yWf fun t ht hm=>h t ht ?_
 simp only[PI.reads,List.mem_append,List.mem_flatMap]
 exact .inl ⟨x,hx,hm⟩
theorem yjz{fr:Frame}{dst:Option Nat}{d:D}{i:PI}(h:∀ t,dst=some t→t∉i.reads):i.wanted (fr.put dst d)=i.wanted fr:=by
 unfold PI.wanted
 cases hg:i.guard with
 |none=>rfl
 |some q=>
  obtain⟨s,want⟩:=q
  cases dst with
  |none=>rfl
  |some t=>
   have:s≠t:=fun e=>h t rfl (by simp[PI.reads,hg,optL,e])
   simp[Frame.put,Frame.set,this]
def PI.step(G:Glob)(T:Tbl)(i:PI)(s:PS):Option (D×St):=
 match i.wanted s.fr with
 |none=>none
 |some false=>some (.tup [],s.st)
 |some true=>i.op.exec T (rho G s.fr) s.st
theorem PI.exec_eq{G:Glob}{T:Tbl}(i:PI)(s:PS):i.exec G T s=(i.step G T s).map fun r=>{fr:=s.fr.put i.dst r.1,st:=r.2}:=by
 unfold PI.exec PI.step
 split <;> simp_all
 split <;> simp_all
theorem yDm{x y:PI}(h:x.apart y=true):(∀ t,x.dst=some t→t∉y.reads)∧(∀ t,x.dst=some t→y.dst≠some t)∧(∀ t,y.dst=some t→t∉x.reads)∧(x.op.cls=0∨y.op.cls=0∨(x.op.cls≤2∧y.op.cls≤2)∨(x.op.cls≤2∧y.op.push=true)):=by
 simp only[PI.apart,Bool.and_eq_true,Bool.or_eq_true,beq_iff_eq,decide_eq_true_eq]at h
 obtain⟨⟨h1,h2⟩,h3⟩:=h
 refine⟨fun t ht=>?_,fun t ht=>?_,fun t ht=>?_,?_⟩
 ·simp only[ht,Bool.and_eq_true,Bool.not_eq_true']at h1
  simpa using h1.1
 ·simp only[ht,Bool.and_eq_true,bne_iff_ne]at h1
  exact h1.2
 ·simp only[ht,Bool.not_eq_true']at h2
  simpa using h2
 ·rcases h3 with(h3 | h3) | h3
  ·exact .inl h3
  ·exact .inr (.inl h3)
  ·rcases h3.2 with h4 | h4
   ·exact .inr (.inr (.inl ⟨h3.1,h4⟩))
   ·exact .inr (.inr (.inr ⟨h3.1,h4⟩))
theorem swap{G:Glob}{T:Tbl}{x y:PI}{s s1 s2:PS}(h:x.apart y=true)(hx:x.exec G T s=some s1)(hy:y.exec G T s1=some s2):∃ s1',y.exec G T s=some s1'∧x.exec G T s1'=some s2:=by
 obtain⟨a1,a2,a3,a4⟩:=yDm h
 rw[PI.exec_eq]at hx hy
 simp only[Ywi]at hx hy
 obtain⟨⟨dx,stx⟩,hx,rfl⟩:=hx
 obtain⟨⟨dy,sty⟩,hy,rfl⟩:=hy
 simp only at hy
 have hyw:y.wanted (s.fr.put x.dst dx)=y.wanted s.fr:=yjz a1
 have key:∀ sty',y.step G T s=some (dy,sty')→(∀ d,x.step G T {fr:=s.fr.put y.dst d,st:=sty'}=some (dx,sty))→∃ s1',y.exec G T s=some s1'∧x.exec G T s1'=some {fr:=(s.fr.put x.dst dx).put y.dst dy,st:=sty}:=by
  intro sty' h1 h2
  refine⟨{fr:=s.fr.put y.dst dy,st:=sty'},by rw[PI.exec_eq,h1]; rfl,?_⟩
  rw[PI.exec_eq,h2 dy]
  simp only[Option.map_some]
  rw[yxw s.fr dx dy a2]
 unfold PI.step at hx hy
 simp only[hyw]at hy
 have hxw:∀ d,x.wanted (s.fr.put y.dst d)=x.wanted s.fr:=fun d=>yjz a3
 -- by which of the two is carried out
 cases hwx:x.wanted s.fr with
 |none=>simp[hwx]at hx
 |some bx=>
  cases hwy:y.wanted s.fr with
  |none=>simp[hwy]at hy
  |some by'=>
   cases bx with
   |false=>
    simp only[hwx,Ywh,Ywj]at hx
    obtain⟨rfl,rfl⟩:=hx
    cases by' with
    |false=>
     simp only[hwy,Ywh,Ywj]at hy
     obtain⟨rfl,rfl⟩:=hy
     exact key s.st (by simp[PI.step,hwy]) (fun d=>by simp[PI.step,hxw,hwx])
    |true=>
     simp only[hwy]at hy
     rw[yg4 a1]at hy
     exact key sty (by simp[PI.step,hwy,hy]) (fun d=>by simp[PI.step,hxw,hwx])
   |true=>
    simp only[hwx]at hx
    cases by' with
    |false=>
     simp only[hwy,Ywh,Ywj]at hy
     obtain⟨rfl,rfl⟩:=hy
     exact key s.st (by simp[PI.step,hwy]) (fun d=>by simp only[PI.step,hxw,hwx]; rw[yg4 a3]; exact hx)
    |true=>
     simp only[hwy]at hy
     rw[yg4 a1]at hy
     rcases a4 with c | c | ⟨c1,c2⟩ | ⟨c1,c2⟩
     ·obtain⟨rfl,h2⟩:=yAp x.op c hx
      exact key sty (by simp[PI.step,hwy,hy]) (fun d=>by simp only[PI.step,hxw,hwx]; rw[yg4 a3]; exact h2 _)
     ·obtain⟨rfl,h2⟩:=yAp y.op c hy
      exact key s.st (by simp only[PI.step,hwy]; exact h2 _) (fun d=>by simp only[PI.step,hxw,hwx]; rw[yg4 a3]; exact hx)
     ·obtain⟨ks,rfl⟩:=yuw x.op c1 hx
      rw[yAq y.op c2]at hy
      simp only[Ywi,Ywj,Prod.exists]at hy
      obtain⟨dy',st',h1,rfl,rfl⟩:=hy
      obtain⟨qs,rfl⟩:=yuw y.op c2 h1
      refine key _ (by simp only[PI.step,hwy]; exact h1) (fun d=>?_)
      simp only[PI.step,hxw,hwx]
      rw[yg4 a3,yAq x.op c1,hx]
      simp only[Option.map_some]
      rw[yzz]
     ·obtain⟨ks,rfl⟩:=yuw x.op c1 hx
      obtain⟨o,ho⟩:=yWt c2 hy
      have h1:=ho s.st (by rw[ye5])
      have h2:=ho (lend ks s.st) rfl
      rw[hy]at h2
      simp only[Ywh,Ywj,true_and]at h2
      refine key _ (by simp only[PI.step,hwy]; exact h1) (fun d=>?_)
      simp only[PI.step,hxw,hwx]
      rw[yg4 a3,yZ8 x.op c1 hx,h2]
end Go.Proofs.YtijnglngaogdjaaGreatDoor.PI
namespace Go.Proofs.YtijnglngaogdjaaGreatDoor.PI
open Go Go.RowKit
def Like(st st2:St)(k:Nat):Prop:=(st[k]?=none∧st2[k]?=none)∨∃ o o2,st[k]?=some o∧st2[k]?=some o2∧o2.row=o.row∧o2.sz=o.sz∧o2.els=o.els
theorem Like.symm{st st2:St}{k:Nat}(h:Like st st2 k):Like st2 st k:=by
 rcases h with⟨a,b⟩ | ⟨o,o2,a,b,c,d,e⟩
 ·exact .inl ⟨b,a⟩
 ·exact .inr ⟨o2,o,b,a,c.symm,d.symm,e.symm⟩
theorem Like.of_eq{st st2:St}{k:Nat}(h:st2[k]?=st[k]?):Like st st2 k:=by
 cases hk:st[k]? with
 |none=>exact .inl ⟨hk,by rw[h,hk]⟩
 |some o=>exact .inr ⟨o,o,hk,by rw[h,hk],rfl,rfl,rfl⟩
theorem ysf{st st2:St}{key:Nat}(h:Like st st2 key)(tot off len:Nat):yec st2 key tot off len=yec st key tot off len:=by
 unfold yec
 rcases h with⟨a,b⟩ | ⟨o,o2,a,b,c,d,e⟩
 ·rw[a,b]
 ·simp only[a,b,c,d,e]
theorem yBd{st st2:St}{key:Nat}(h:Like st st2 key)(off n sz:Nat)(ag:Bool):ylf st2 key off n sz ag=ylf st key off n sz ag:=by
 unfold ylf
 rcases h with⟨a,b⟩ | ⟨o,o2,a,b,c,d,e⟩
 ·rw[a,b]
 ·simp only[a,b,c,e]
theorem yzv{st st2:St}{key:Nat}(h:Like st st2 key)(tot:Nat):live st2 key tot=live st key tot:=by
 unfold live
 rcases h with⟨a,b⟩ | ⟨o,o2,a,b,c,d,e⟩
 ·rw[a,b]
 ·simp only[a,b,c,e]
theorem yJh{st st2:St}{d:D}(h:∀ k∈hk1 d,Like st st2 k):imm1 st2 d=imm1 st d:=by
 cases d with
 |row key tot off len=>simp only[imm1,ysf (h key (by simp[hk1,hk0]))]
 |bsl key off n sz ag=>simp only[imm1,bslI,yBd (h key (by simp[hk1,hk0]))]
 |_=>simp only[imm1]
theorem yJd{st st2:St}:∀ {l:List D},(∀ k∈l.flatMap hk1,Like st st2 k)→immL st2 l=immL st l
 |[],_=>rfl
 |d::l,h=>by
  simp only[immL]
  rw[yJh (fun k hk=>h k (by simp[hk])),yJd (fun k hk=>h k (by rw[List.flatMap_cons,List.mem_append]; exact .inr hk))]
theorem yPp{st st2:St}{d:D}(h:∀ k∈hk d,Like st st2 k):imm st2 d=imm st d:=by
 cases d with
 |agg l=>simp only[imm]; rw[yJd h]
 |tup l=>rfl
 |_=>simp only[imm]; exact yJh h
theorem yus{st st2:St}:∀ {l:List D},(∀ k∈l.flatMap hk,Like st st2 k)→imms st2 l=imms st l
 |[],_=>rfl
 |d::l,h=>by
  simp only[imms]
  rw[yPp (fun k hk=>h k (by rw[List.flatMap_cons,List.mem_append]; exact .inl hk)),yus (fun k hk=>h k (by rw[List.flatMap_cons,List.mem_append]; exact .inr hk))]
theorem yTt{st st2:St}{d:D}(h:∀ k∈hk d,Like st st2 k):ygl st2 d=ygl st d:=by
 cases d with
 |row key tot off len=>simp only[ygl,ysf (h key (by simp[hk,hk1,hk0]))]
 |bsl key off n sz ag=>simp only[ygl,yBd (h key (by simp[hk,hk1,hk0]))]
 |_=>rfl
theorem yV9{st st2:St}{d:D}(h:∀ k∈hk d,Like st st2 k):sLen st2 d=sLen st d:=by
 cases d with
 |row key tot off len=>simp only[sLen,yzv (h key (by simp[hk,hk1,hk0]))]
 |_=>rfl
theorem ySa{st st2:St}{c:PConv}{d:D}(h:∀ k∈hk d,Like st st2 k):yde st2 c d=yde st c d:=by
 cases d with
 |row key tot off len=>cases c <;> simp only[yde,ysf (h key (by simp[hk,hk1,hk0]))]
 |_=>cases c <;> simp only[yde]
theorem yL0{st st2:St}{sz:Nat}{x:D}{lo hi mx:Option D}(h:∀ k∈hk x,Like st st2 k):yc6 st2 sz x lo hi mx=yc6 st sz x lo hi mx:=by
 cases x with
 |row key tot off len=>
  simp only[yc6]
  rcases h key (by simp[hk,hk1,hk0])with⟨a,b⟩ | ⟨o,o2,a,b,c,d,e⟩
  ·rw[a,b]
  ·simp only[a,b,c,d,e]
 |_=>simp only[yc6]
theorem yR2{st st2:St}{sz:Nat}{x i:D}(h:∀ k∈hk x,Like st st2 k):yfw st2 sz x i=yfw st sz x i:=by
 unfold yfw
 cases yd5 i with
 |none=>rfl
 |some j=>
  cases x with
  |row key tot off len=>
   simp only
   rcases h key (by simp[hk,hk1,hk0])with⟨a,b⟩ | ⟨o,o2,a,b,c,d,e⟩
   ·rw[a,b]
   ·simp only[a,b,c,d,e]
  |_=>rfl
theorem yIh{st st2:St}{off:Nat}{x:D}(h:∀ k∈rpK x,Like st st2 k):pfld st2 off x=pfld st off x:=by
 cases x with
 |rptr key tot i o=>simp only[pfld,yzv (h key (by simp[rpK]))]
 |_=>rfl
theorem yR4{st st2:St}{n sz:Nat}{x i:D}(h:∀ k∈rpK x,Like st st2 k):ymn st2 n sz x i=ymn st n sz x i:=by
 simp only[ymn,yIh h]
theorem yRx{st st2:St}{n:Nat}{ag:Bool}{p:D}(h:∀ k∈hk p,Like st st2 k):ydd st2 n ag p=ydd st n ag p:=by
 cases p with
 |ptr key off=>
  simp only[ydd]
  rcases h key (by simp[hk,hk1,hk0])with⟨a,b⟩ | ⟨o,o2,a,b,c,d,e⟩
  ·rw[a,b]
  ·simp only[a,b,c,e]
 |rptr key tot i off=>
  simp only[ydd]
  rcases h key (by simp[hk,hk1,hk0])with⟨a,b⟩ | ⟨o,o2,a,b,c,d,e⟩
  ·rw[a,b]
  ·simp only[a,b,c,e]
 |_=>simp only[ydd]
theorem yIb{st st2:St}{sz:Nat}{ks:List Nat}{ok:Bool}{zero m k:D}(h:∀ k∈hk m,Like st st2 k):ydz st2 sz ks ok zero m k=ydz st sz ks ok zero m k:=by
 cases m with
 |mapv key=>
  simp only[ydz]
  rcases h key (by simp[hk,hk1,hk0])with⟨a,b⟩ | ⟨o,o2,a,b,c,d,e⟩
  ·rw[a,b]
  ·simp only[a,b,Obj.isMap,c,d,e]
   rfl
 |_=>simp only[ydz]
theorem yXx{st st2:St}{p:D}(h:∀ k∈rpK p,Like st st2 k):∀ key tot i off,p=.rptr key tot i off→live st2 key tot=live st key tot:=by
 rintro key tot i off rfl
 exact yzv (h key (by simp[rpK])) tot
theorem Yga{d:D}{k:Nat}(h:k∈key1 d):k∈hk1 d:=by
 cases d <;> simp_all [key1,hk1,hk0]
theorem Ynd{d:D}{k:Nat}(h:k∈keys d):k∈hk d:=by
 cases d with
 |agg l=>
  simp only[keys,hk,List.mem_flatMap]at h ⊢
  obtain⟨x,h1,h2⟩:=h
  exact⟨x,h1,Yga h2⟩
 |row a b c e=>exact h
 |bsl key off n sz ag=>simp only[keys,key1,List.mem_singleton]at h; subst h; simp[hk,hk1,hk0]
 |_=>simp[keys,key1]at h
theorem yPl{l:List D}{k:Nat}(h:k∈l.flatMap keys):k∈l.flatMap hk:=by
 simp only[List.mem_flatMap]at h ⊢
 obtain⟨x,h1,h2⟩:=h
 exact⟨x,h1,Ynd h2⟩
inductive Eff where
 |lend (ks:List Nat)
 |set (k:Nat) (o:Obj)
 |push (os:List Obj)
theorem Yqd{st:St}{d:D}{szx:Nat}{xs:List D}(h:ygl st d=some (szx,xs))(hx:xs≠[])(n:Nat):appN d n=some n:=by
 unfold appN
 split
 ·simp only[ygl,Ywh,Ywj]at h
  exact absurd h.2.symm hx
 ·rfl
theorem Ycg{d:D}{n m:Nat}(h:appN d m=some n):n=m:=by
 unfold appN at h
 split at h
 ·cases h
 ·simpa using h.symm
theorem yKp{d:D}{n:Nat}(h:appN d n=none)(m:Nat):appN d m=none:=by
 unfold appN at h ⊢
 split
 ·rfl
 ·rename_i hx
  split at h
  ·rename_i a b; exact absurd rfl (hx _ _)
  ·cases h
def Eff.app:Eff→St→St
 |.lend ks,st=>PI.lend ks st
 |.set k o,st=>st.set k o
 |.push os,st=>st++os
def Eff.inn(f:Foot):Eff→Prop
 |.lend ks=>∀ k∈ks,k∈f.rd
 |.set k _=>k∈f.wr
 |.push _=>f.nu.isSome=true
theorem yHy{st st2:St}:∀ {l:List Nat},(∀ k∈l,Like st st2 k)→sees st2 l=sees st l
 |[],_=>rfl
 |a::l,h=>by
  have e:(st2[a]?).map Obj.see=(st[a]?).map Obj.see:=by
   rcases h a (by simp)with⟨x,y⟩ | ⟨o,o2,x,y,c,d,e⟩
   ·rw[x,y]
   ·simp only[x,y,Option.map_some,Obj.see,c,d,e]
  have ih:=yHy (st:=st) (st2:=st2) (l:=l) fun k hk=>h k (by simp[hk])
  simp only[sees,e,ih]
theorem yLy{st st2:St}{sp:List D→List (Option (Bool×Nat×List D))→Option D}{ds:List D}(h:∀ k∈ds.flatMap hk,Like st st2 k):yfr sp ds st2=yfr sp ds st:=by
 have e:(ds.flatMap hk).all (fun k=>(st2[k]?).isSome)=(ds.flatMap hk).all (fun k=>(st[k]?).isSome):=by
  rw[Bool.eq_iff_iff,List.all_eq_true,List.all_eq_true]
  refine forall_congr' fun k=>imp_congr_right fun hk=>?_
  rcases h k hk with⟨x,y⟩ | ⟨o,o2,x,y,_⟩
  ·rw[x,y]
  ·rw[x,y]; simp
 unfold yfr
 rw[e,yHy h]
theorem yJr{T:Tbl}{ρ:PA→D}(p:POp){st st':St}{d:D}{f:Foot}(hf:p.foot ρ st=some f)(h:p.exec T ρ st=some (d,st')) :
  ∃ e:Eff,e.inn f∧st'=e.app st∧∀ st2:St,(∀ k∈f.rd,Like st st2 k)→(∀ k∈f.wr,st2[k]?=st[k]?)→(f.nu.isSome=true→st2.length=st.length)→p.exec T ρ st2=some (d,e.app st2):=by
 by_cases hc:p.cls=0
 ·obtain⟨h1,h2⟩:=yAp p hc h
  exact⟨.lend [],(fun k hk=>by cases hk),h1,fun st2 _ _ _=>h2 st2⟩
 have rd:∀ {α:Type} (F:St→Option α) (g:α→D),((F st).map fun x=>(g x,st))=some (d,st')→(∀ st2,(∀ k∈f.rd,Like st st2 k)→F st2=F st)→(∀ st2,p.exec T ρ st2=(F st2).map fun x=>(g x,st2))→
   ∃ e:Eff,e.inn f∧st'=e.app st∧∀ st2:St,(∀ k∈f.rd,Like st st2 k)→(∀ k∈f.wr,st2[k]?=st[k]?)→(f.nu.isSome=true→st2.length=st.length)→p.exec T ρ st2=some (d,e.app st2):=by
  intro α F g h1 h2 h3
  simp only[Ywi,Ywj]at h1
  obtain⟨x,hx,h4,h5⟩:=h1
  refine⟨.lend [],(fun k hk=>by cases hk),h5.symm,fun st2 hl _ _=>?_⟩
  rw[h3,h2 st2 hl,hx,← h4]; rfl
 cases p with
 |load n ag x=>
  simp only[POp.foot,POp.args,Ywh]at hf; subst hf
  exact rd (fun st=>ydd st n ag (ρ x)) id h (fun st2 hl=>yRx fun k hk=>hl k (by simpa using hk)) (fun _=>rfl)
 |fld off x=>
  simp only[POp.foot,Ywh]at hf; subst hf
  exact rd (fun st=>pfld st off (ρ x)) id h (fun st2 hl=>yIh hl) (fun _=>rfl)
 |conv c x=>
  simp only[POp.foot,POp.args,Ywh]at hf; subst hf
  exact rd (fun st=>yde st c (ρ x)) id h (fun st2 hl=>ySa fun k hk=>hl k (by simpa using hk)) (fun _=>rfl)
 |slice sz x lo hi mx=>
  simp only[POp.foot,POp.args,Ywh]at hf; subst hf
  exact rd (fun st=>yc6 st sz (ρ x) (lo.map ρ) (hi.map ρ) (mx.map ρ)) id h (fun st2 hl=>yL0 fun k hk=>hl k (by rw[List.map_cons,List.flatMap_cons,List.mem_append]; exact .inl hk)) (fun _=>rfl)
 |idxS sz x i=>
  simp only[POp.foot,POp.args,Ywh]at hf; subst hf
  exact rd (fun st=>yfw st sz (ρ x) (ρ i)) id h (fun st2 hl=>yR2 fun k hk=>hl k (by rw[List.map_cons,List.flatMap_cons,List.mem_append]; exact .inl hk)) (fun _=>rfl)
 |idxA n sz x i=>
  simp only[POp.foot,Ywh]at hf; subst hf
  exact rd (fun st=>ymn st n sz (ρ x) (ρ i)) id h (fun st2 hl=>yR4 hl) (fun _=>rfl)
 |len str x=>
  simp only[POp.foot,POp.args,Ywh]at hf; subst hf
  simp only[POp.exec]at h
  split at h
  ·rename_i hs
   exact rd (fun st=>sLen st (ρ x)) (fun n:Nat=>D.int .i64 (n:Int)) h (fun st2 hl=>yV9 fun k hk=>hl k (by simpa using hk)) (fun st2=>by simp only[POp.exec]; rw[if_pos hs])
  ·cases h
 |nilc x=>
  simp only[POp.foot,Ywh]at hf; subst hf
  have hn:=fun st2 (hl:∀ k∈rpK (ρ x),Like st st2 k)=>yXx (p:=ρ x) hl
  simp only[POp.exec]at h ⊢
  cases hx:ρ x with
  |ptr key off=>
   simp only[hx,Ywh,Ywj]at h
   refine⟨.lend [],(fun k hk=>by cases hk),h.2.symm,fun st2 hl _ _=>by rw[← h.1]; rfl⟩
  |eptr el off=>
   simp only[hx,Ywh,Ywj]at h
   refine⟨.lend [],(fun k hk=>by cases hk),h.2.symm,fun st2 hl _ _=>by rw[← h.1]; rfl⟩
  |rptr key tot i off=>
   simp only[hx]at h ⊢
   split at h
   ·rename_i hlv
    simp only[Ywh,Ywj]at h
    refine⟨.lend [],(fun k hk=>by cases hk),h.2.symm,fun st2 hl _ _=>?_⟩
    rw[hn st2 (by rw[hx]; exact hl) key tot i off hx,if_pos hlv,← h.1]; rfl
   ·cases h
  |_=>simp[hx]at h
 |bslc sz parts=>
  simp only[POp.foot,POp.args,Ywh]at hf; subst hf
  simp only[POp.exec]at h ⊢
  split at h
  ·rename_i els he
   split at h
   ·rename_i hcond
    simp only[Ywh,Ywj]at h
    refine⟨.lend ((parts.map ρ).flatMap keys),fun k hk=>yPl hk,h.2.symm,fun st2 hl _ _=>?_⟩
    rw[yus hl,he]
    simp only[hcond,if_true,← h.1]
    rfl
   ·cases h
  ·cases h
 |call fn args=>
  simp only[POp.foot,POp.args,Ywh]at hf; subst hf
  simp only[POp.exec]at h ⊢
  split at h
  ·rename_i sp vs hsp hvs
   split at h
   ·rename_i r hr
    simp only[Ywh,Ywj]at h
    by_cases hn:r.noRef=true
    ·refine⟨.lend [],(fun k hk=>by cases hk),?_,fun st2 hl _ _=>?_⟩
     ·rw[← h.2,if_pos hn]; rfl
     ·simp only[hsp,yus hl,hvs,hr,hn,if_true,← h.1]; rfl
    ·refine⟨.lend ((args.map ρ).flatMap keys),fun k hk=>yPl hk,?_,fun st2 hl _ _=>?_⟩
     ·rw[← h.2,if_neg hn]; rfl
     ·simp only[hsp,yus hl,hvs,hr,hn,← h.1]; rfl
   ·cases h
  ·cases h
 |box x=>
  simp only[POp.foot,Ywh]at hf; subst hf
  simp only[POp.exec]at h ⊢
  split at h
  ·rename_i hcond
   simp only[Ywh,Ywj]at h
   refine⟨.push _,rfl,h.2.symm,fun st2 _ _ hm=>?_⟩
   rw[if_pos hcond,hm rfl,← h.1]; rfl
  ·cases h
 |mkslc sz bytes zero l c=>
  simp only[POp.foot,Ywh]at hf; subst hf
  simp only[POp.exec]at h ⊢
  split at h
  ·split at h
   ·rename_i hcond
    simp only[Ywh,Ywj]at h
    refine⟨.push _,rfl,h.2.symm,fun st2 _ _ hm=>?_⟩
    rw[if_pos hcond,hm rfl,← h.1]; rfl
   ·cases h
  ·cases h
 |mcall fn args=>
  simp only[POp.foot,Ywh]at hf; subst hf
  simp only[POp.exec]at h ⊢
  split at h
  ·split at h
   ·simp only[Ywh,Ywj]at h
    refine⟨.push _,rfl,h.2.symm,fun st2 _ _ hm=>?_⟩
    rw[hm rfl,← h.1]; rfl
   ·cases h
  ·cases h
 |stor n p x=>
  simp only[POp.foot,Ywh]at hf; subst hf
  simp only[POp.exec]at h ⊢
  cases hp:ρ p with
  |ptr key off=>
   rw[hp]at h
   simp only[yxh]at h ⊢
   cases hk:st[key]? with
   |none=>simp[hk]at h
   |some o=>
    simp only[hk]at h
    split at h
    ·rename_i hcond
     simp only[Option.map_some,Ywh,Ywj]at h
     refine⟨.set key _,by simp[Eff.inn,PI.hk,hk1,hk0],h.2.symm,fun st2 _ hw _=>?_⟩
     have e:=hw key (by simp[PI.hk,hk1,hk0])
     rw[e,hk]
     simp only[hcond,if_true,Option.map_some,← h.1]
     rfl
    ·simp at h
  |rptr key tot i off=>
   rw[hp]at h
   simp only[yxh]at h ⊢
   cases hk:st[key]? with
   |none=>simp[hk]at h
   |some o=>
    cases hy:imm st (ρ x)with
    |none=>simp[hk,hy]at h
    |some y=>
     simp only[hk,hy]at h
     split at h
     case isFalse=>simp at h
     rename_i hcond
     split at h
     case h_2=>simp at h
     rename_i el hel
     split at h
     case h_2=>simp at h
     rename_i el' hel'
     split at h
     case isFalse=>simp at h
     rename_i hlen
     simp only[Option.map_some,Ywh,Ywj]at h
     refine⟨.set key _,by simp[Eff.inn,PI.hk,hk1,hk0],h.2.symm,fun st2 hl hw _=>?_⟩
     have e:=hw key (by simp[PI.hk,hk1,hk0])
     rw[e,hk,yPp hl,hy]
     simp only[hcond,if_true,hel,hel',hlen,Option.map_some,← h.1]
     rfl
  |_=>simp[hp,yxh]at h
 |app sz bytes s x=>
  simp only[POp.foot]at hf
  simp only[POp.exec]at h ⊢
  unfold papp at h ⊢
  have hels:∀ st2,(∀ k∈hk (ρ x),Like st st2 k)→ygl st2 (ρ x)=ygl st (ρ x):=fun st2 hl=>yTt hl
  cases he:ygl st (ρ x)with
  |none=>simp[he]at h
  |some r=>
   obtain⟨szx,xs⟩:=r
   simp only[he]at h
   split at h
   ·cases h
   rename_i hc1
   cases hs:ρ s with
   |row key tot off len=>
    simp only[hs,Ywh]at hf; subst hf
    simp only[hs]at h ⊢
    cases hk:st[key]? with
    |none=>simp[hk]at h
    |some o=>
     simp only[hk]at h
     split at h
     case isFalse=>cases h
     rename_i hcond
     simp only[Ywh,Ywj]at h
     refine⟨.set key _,by simp[Eff.inn],h.2.symm,fun st2 hl hw _=>?_⟩
     have e:=hw key (by simp)
     rw[hels st2 hl,he,e,hk]
     simp only[hc1,if_false,Bool.false_eq_true,hcond,if_true,← h.1]
     rfl
   |slc sz' els t=>
    simp only[hs,Ywh]at hf; subst hf
    cases t with
    |false=>simp[hs]at h
    |true=>
     simp only[hs]at h ⊢
     split at h
     ·rename_i hemp
      simp only[Ywh,Ywj]at h
      refine⟨.lend [],(fun k hk=>by cases hk),h.2.symm,fun st2 hl _ _=>?_⟩
      rw[hels st2 hl,he]
      dsimp only
      rw[if_neg hc1,if_pos hemp,← h.1]
      rfl
     ·rename_i hemp
      split at h
      case isFalse=>cases h
      rename_i hcond
      simp only[Ywh,Ywj]at h
      have hN:appN (ρ x) st.length=some st.length:=Yqd he (by simpa using hemp) _
      refine⟨.push _,(by show(appN (ρ x) st.length).isSome=true; rw[hN]; rfl),h.2.symm,fun st2 hl _ hm=>?_⟩
      rw[hels st2 hl,he,hm (by show(appN (ρ x) st.length).isSome=true; rw[hN]; rfl)]
      dsimp only
      rw[if_neg hc1,if_neg hemp,if_pos hcond,← h.1]
      rfl
   |_=>simp[hs]at h
 |rcall fn args=>
  simp only[POp.foot,POp.args,Ywh]at hf; subst hf
  simp only[POp.exec]at h
  split at h
  ·rename_i sp hsp
   exact rd (fun st=>yfr sp (args.map ρ) st) id h (fun st2 hl=>yLy hl) (fun st2=>by simp only[POp.exec,hsp]; rfl)
  ·cases h
 |icall fn args=>simp[POp.foot]at hf
 |callv x args=>simp[POp.foot]at hf
 |fail=>simp[POp.foot]at hf
 |mkmap sz=>simp[POp.foot]at hf
 |mapup sz ks m k v=>simp[POp.foot]at hf
 |cpy sz d s=>simp[POp.foot]at hf
 |mapget sz ks ok zero m k=>
  simp only[POp.foot,POp.args,Ywh]at hf; subst hf
  exact rd (fun st=>ydz st sz ks ok zero (ρ m) (ρ k)) id h (fun st2 hl=>yIb fun k hk=>hl k (by rw[List.map_cons,List.flatMap_cons,List.mem_append]; exact .inl hk)) (fun _=>rfl)
 |_=>simp[POp.cls]at hc
theorem yZt{ρ:PA→D}{st:St}{p:POp}{f:Foot}(h:p.foot ρ st=some f):∀ n,f.nu=some n→n=st.length:=by
 intro n hn
 cases p with
 |app sz bytes s x=>
  simp only[POp.foot]at h
  cases hs:ρ s <;> simp only[hs,Ywh]at h <;> subst h <;> first | exact Ycg hn | (simp at hn; done) | exact(by simpa using hn.symm)
 |_=>
  simp only[POp.foot,Ywh,reduceCtorEq]at h
  try subst h
  try simp at hn
  try exact hn.symm
theorem yq8{ρ:PA→D}{st st2:St}(p:POp)(h:st2.length=st.length):p.foot ρ st2=p.foot ρ st:=by
 cases p <;> simp only[POp.foot,h]
theorem yx5{ρ:PA→D}(p:POp)(hc:p.cls≤2)(st st2:St):p.foot ρ st2=p.foot ρ st:=by
 cases p <;> first | rfl | (simp[POp.cls]at hc; done)
theorem yCx{ρ:PA→D}{st st2:St}{p:POp}{f:Foot}(h:p.foot ρ st=some f)(hm:f.nu=none):p.foot ρ st2=some f:=by
 cases p with
 |app sz bytes s x=>
  simp only[POp.foot]at h ⊢
  cases hs:ρ s <;> simp only[hs,Ywh]at h ⊢ <;> subst h <;> first | rfl | (simp only[yKp hm _]; done) | (simp at hm; done) | (rw[yKp hm st2.length,hm])
 |box x=>simp only[POp.foot,Ywh]at h; subst h; cases hm
 |mkslc a b c d e=>simp only[POp.foot,Ywh]at h; subst h; cases hm
 |mcall fn args=>simp only[POp.foot,Ywh]at h; subst h; cases hm
 |_=>exact h
theorem yTo{ρ ρ':PA→D}{st:St}(p:POp)(h:∀ x∈p.args,ρ x=ρ' x):p.foot ρ st=p.foot ρ' st:=by
 cases p with
 |stor n p x=>simp only[POp.args,List.mem_cons,List.not_mem_nil,or_false,forall_eq_or_imp,forall_eq]at h; simp only[POp.foot,h]
 |app a b s x=>simp only[POp.args,List.mem_cons,List.not_mem_nil,or_false,forall_eq_or_imp,forall_eq]at h; simp only[POp.foot,h]
 |box x=>rfl
 |mkslc a b c d e=>rfl
 |mcall f args=>rfl
 |icall f args=>rfl
 |callv x args=>rfl
 |fail=>rfl
 |mkmap sz=>rfl
 |mapup sz ks m k v=>rfl
 |cpy sz d s=>rfl
 |fld n x=>simp only[POp.args,List.mem_cons,List.not_mem_nil,or_false,forall_eq]at h; simp only[POp.foot,h]
 |nilc x=>simp only[POp.args,List.mem_cons,List.not_mem_nil,or_false,forall_eq]at h; simp only[POp.foot,h]
 |idxA a b x i=>simp only[POp.args,List.mem_cons,List.not_mem_nil,or_false,forall_eq_or_imp,forall_eq]at h; simp only[POp.foot,h]
 |_=>
  simp only[POp.foot]
  rw[List.map_congr_left h]
theorem yBg{a b:List Nat}(h:away a b=true):∀ k∈a,k∉b:=by
 simp only[away,List.all_eq_true,Bool.not_eq_true']at h
 intro k hk hb
 have:=h k hk
 simp[hb]at this
theorem yrf{m:Option Nat}{b:List Nat}(h:yu8 m b=true):∀ n,m=some n→∀ k∈b,k<n:=by
 rintro n rfl k hk
 simp only[yu8,List.all_eq_true,decide_eq_true_eq]at h
 exact h k hk
theorem yXo{f g:Foot}(h:f.ok g=true):(∀ k∈g.wr,k∉f.rd)∧(∀ k∈g.wr,k∉f.wr)∧(∀ k∈f.wr,k∉g.rd)∧(∀ n,f.nu=some n→∀ k∈g.rd,k<n)∧(∀ n,f.nu=some n→∀ k∈g.wr,k<n)∧(∀ n,g.nu=some n→∀ k∈f.rd,k<n)∧(∀ n,g.nu=some n→∀ k∈f.wr,k<n)∧(f.nu=none∨g.nu=none):=by
 simp only[Foot.ok,Bool.and_eq_true,Bool.or_eq_true,Option.isNone_iff_eq_none]at h
 obtain⟨⟨⟨⟨⟨⟨⟨h1,h2⟩,h3⟩,h4⟩,h5⟩,h6⟩,h7⟩,h8⟩:=h
 exact⟨yBg h1,yBg h2,yBg h3,yrf h4,yrf h5,yrf h6,yrf h7,h8⟩
theorem ysq:∀ (ks:List Nat) (st:St) (i:Nat),(lend ks st)[i]?=(st[i]?).map fun o=>if i∈ks then {o with lent:=true} else o
 |[],st,i=>by simp[lend]
 |k::r,st,i=>by
  rw[lend,ysq r,yc0]
  cases st[i]? with
  |none=>rfl
  |some o=>
   by_cases e:k=i
   ·subst e; by_cases e':k∈r <;> simp[e']
   ·have e2:¬ i=k:=fun h=>e h.symm
    by_cases e':i∈r <;> simp[e,e',e2]
theorem yO9(ks:List Nat)(st:St)(k:Nat)(o:Obj)(h:k∉ks):lend ks (st.set k o)=(lend ks st).set k o:=by
 apply List.ext_getElem?
 intro i
 rw[ysq,List.getElem?_set,List.getElem?_set,ysq,ye5]
 by_cases e:k=i
 ·subst e
  by_cases hl:k<st.length <;> simp[hl,h]
 ·simp[e]
theorem yPb(ks:List Nat)(st:St)(os:List Obj)(h:∀ k∈ks,k<st.length):lend ks (st++os)=lend ks st++os:=by
 apply List.ext_getElem?
 intro i
 rw[ysq]
 rcases Nat.lt_or_ge i st.length with hi | hi
 ·rw[List.getElem?_append_left hi,List.getElem?_append_left (by rw[ye5]; exact hi),ysq]
 ·rw[List.getElem?_append_right hi,List.getElem?_append_right (by rw[ye5]; exact hi),ye5]
  have:i∉ks:=fun hk=>by have:=h i hk; omega
  simp[this]
theorem yV5(st:St)(k:Nat)(o:Obj)(os:List Obj)(h:k<st.length):(st++os).set k o=st.set k o++os:=List.set_append_left _ _ h
theorem Eff.len{e:Eff}{f:Foot}{st:St}(h:e.inn f)(hm:f.nu=none):(e.app st).length=st.length:=by
 cases e with
 |lend ks=>exact ye5 ks st
 |set k o=>simp[Eff.app]
 |push os=>simp[Eff.inn,hm]at h
theorem Eff.comm{e e':Eff}{f g:Foot}{st:St}(h:e.inn f)(h':e'.inn g)(hok:f.ok g=true)(hf:∀ n,f.nu=some n→n=st.length)(hg:∀ n,g.nu=some n→n=st.length):e.app (e'.app st)=e'.app (e.app st):=by
 obtain⟨o1,o2,o3,o4,o5,o6,o7,o8⟩:=yXo hok
 have some_of:∀ {m:Option Nat},m.isSome=true→(∀ n,m=some n→n=st.length)→m=some st.length:=by
  intro m h1 h2
  cases m with
  |none=>cases h1
  |some n=>rw[h2 n rfl]
 cases e with
 |lend ks=>
  cases e' with
  |lend qs=>exact yzz ks qs st
  |set k o=>exact yO9 ks st k o fun hk=>o1 k h' (h k hk)
  |push os=>exact yPb ks st os fun k hk=>o6 _ (some_of h' hg) k (h _ hk)
 |set k o=>
  cases e' with
  |lend qs=>exact(yO9 qs st k o fun hk=>o3 k h (h' k hk)).symm
  |set k' q=>exact List.set_comm _ _ (fun e=>o2 k' h' (e ▸ h))
  |push q=>exact yV5 st k o q (o7 _ (some_of h' hg) _ h)
 |push o=>
  cases e' with
  |lend qs=>exact(yPb qs st o fun k hk=>o4 _ (some_of h hf) k (h' _ hk)).symm
  |set k q=>exact(yV5 st k q o (o5 _ (some_of h hf) _ h')).symm
  |push q=>
   have a:=some_of h hf
   have b:=some_of h' hg
   rcases o8 with c | c
   ·rw[c]at a; cases a
   ·rw[c]at b; cases b
theorem Eff.eq_at{e:Eff}{f:Foot}{st:St}(h:e.inn f)(hm:∀ n,f.nu=some n→n=st.length){k:Nat}(h1:k∉f.rd)(h2:k∉f.wr)(h3:∀ n,f.nu=some n→k<n):(e.app st)[k]?=st[k]?:=by
 cases e with
 |lend ks=>
  show(PI.lend ks st)[k]?=_
  rw[ysq]
  have:k∉ks:=fun hk=>h1 (h k hk)
  simp[this]
 |set q o=>
  have:q≠k:=fun e=>h2 (e ▸ h)
  simp[Eff.app,this]
 |push o=>
  have hs:f.nu=some st.length:=by
   cases hk:f.nu with
   |none=>simp[Eff.inn,hk]at h
   |some n=>rw[hm n hk]
  have:=h3 _ hs
  show(st++o)[k]?=_
  rw[List.getElem?_append_left this]
theorem Eff.like_at{e:Eff}{f:Foot}{st:St}(h:e.inn f)(hm:∀ n,f.nu=some n→n=st.length){k:Nat}(h2:k∉f.wr)(h3:∀ n,f.nu=some n→k<n):Like st (e.app st) k:=by
 cases e with
 |lend ks=>
  show Like st (PI.lend ks st) k
  unfold Like
  rw[ysq]
  cases hk:st[k]? with
  |none=>exact .inl ⟨rfl,rfl⟩
  |some o=>exact .inr ⟨o,_,rfl,rfl,by split <;> rfl,by split <;> rfl,by split <;> rfl⟩
 |set q o=>
  have:q≠k:=fun e=>h2 (e ▸ h)
  exact Like.of_eq (by simp[Eff.app,this])
 |push o=>
  have hs:f.nu=some st.length:=by
   cases hk:f.nu with
   |none=>simp[Eff.inn,hk]at h
   |some n=>rw[hm n hk]
  have:=h3 _ hs
  refine Like.of_eq ?_
  show(st++o)[k]?=_
  rw[List.getElem?_append_left this]
theorem Yrv{T:Tbl}{ρx ρy:PA→D}{x y:POp}{st st1 st2:St}{dx dy:D}{f g:Foot}(hx:x.exec T ρx st=some (dx,st1))(hfx:x.foot ρx st=some f)(hy:y.exec T ρy st1=some (dy,st2))(hgy:y.foot ρy st1=some g)(hok:f.ok g=true) :
  ∃ st1',y.exec T ρy st=some (dy,st1')∧y.foot ρy st=some g∧x.exec T ρx st1'=some (dx,st2)∧x.foot ρx st1'=some f:=by
 obtain⟨o1,o2,o3,o4,o5,o6,o7,o8⟩:=yXo hok
 obtain⟨e,e1,e2,e3⟩:=yJr x hfx hx
 have hfm:=yZt hfx
 have hgm0:=yZt hgy
 have hgm:∀ n,g.nu=some n→n=st.length:=by
  intro n hn
  rw[hgm0 n hn,e2]
  rcases o8 with c | c
  ·exact Eff.len e1 c
  ·rw[c]at hn; cases hn
 have hgy':y.foot ρy st=some g:=by
  rcases o8 with c | c
  ·rw[yq8 (st:=st1) y (by rw[e2]; exact(Eff.len e1 c).symm)]; exact hgy
  ·exact yCx hgy c
 obtain⟨q,q1,q2,q3⟩:=yJr y hgy hy
 have hy':=q3 st (fun k hk=>by
   rw[e2]
   exact(Eff.like_at e1 hfm (fun hw=>o3 k hw hk) (fun n hn=>o4 n hn k hk)).symm)
  (fun k hk=>by
   rw[e2]
   exact(Eff.eq_at e1 hfm (fun hr=>o1 k hk hr) (fun hw=>o2 k hk hw) (fun n hn=>o5 n hn k hk)).symm)
  (fun hm=>by
   rw[e2]
   rcases o8 with c | c
   ·exact(Eff.len e1 c).symm
   ·rw[c]at hm; cases hm)
 refine⟨q.app st,hy',hgy',?_,?_⟩
 ·have:=e3 (q.app st) (fun k hk=>Eff.like_at q1 hgm (fun hw=>o1 k hw hk) (fun n hn=>o6 n hn k hk))
   (fun k hk=>Eff.eq_at q1 hgm (fun hr=>o3 k hk hr) (fun hw=>o2 k hw hk) (fun n hn=>o7 n hn k hk))
   (fun hm=>by
    rcases o8 with c | c
    ·rw[c]at hm; cases hm
    ·exact Eff.len q1 c)
  rw[this,q2,e2,Eff.comm e1 q1 hok hfm hgm]
 ·rcases o8 with c | c
  ·exact yCx hfx c
  ·rw[yq8 (st:=st) x (Eff.len q1 c)]; exact hfx
def PI.regs(x y:PI):Bool:=
 (match x.dst with
  |some d=>!(y.reads.contains d) && y.dst != some d
  |none=>true) &&
 (match y.dst with
  |some d=>!(x.reads.contains d)
  |none=>true)
theorem yWs{x y:PI}(h:x.regs y=true):(∀ t,x.dst=some t→t∉y.reads)∧(∀ t,x.dst=some t→y.dst≠some t)∧(∀ t,y.dst=some t→t∉x.reads):=by
 simp only[PI.regs,Bool.and_eq_true]at h
 obtain⟨h1,h2⟩:=h
 refine⟨fun t ht=>?_,fun t ht=>?_,fun t ht=>?_⟩
 ·simp only[ht,Bool.and_eq_true,Bool.not_eq_true']at h1
  simpa using h1.1
 ·simp only[ht,Bool.and_eq_true,bne_iff_ne]at h1
  exact h1.2
 ·simp only[ht,Bool.not_eq_true']at h2
  simpa using h2
theorem yfe{x y:PI}(h:x.apart y=true):x.regs y=true:=by
 simp only[PI.apart,Bool.and_eq_true]at h
 simp only[PI.regs,Bool.and_eq_true]
 exact h.1
theorem yPy{G:Glob}{fr:Frame}{dst:Option Nat}{d:D}{st:St}{i:PI}(h:∀ t,dst=some t→t∉i.reads):i.op.foot (rho G (fr.put dst d)) st=i.op.foot (rho G fr) st:=by
 refine yTo i.op fun x hx=>yWf fun t ht hm=>h t ht ?_
 simp only[PI.reads,List.mem_append,List.mem_flatMap]
 exact .inl ⟨x,hx,hm⟩
def Pair(x y:PI×Option Foot):Prop:=x.1.regs y.1=true∧(x.1.apart y.1=true∨∃ f g:Foot,x.2=some f∧y.2=some g∧f.ok g=true)
theorem yFn{G:Glob}{T:Tbl}{x:PI}{s s1:PS}(h:x.exec G T s=some s1)(hc:x.op.cls≤2):s1.st.length=s.st.length:=by
 rw[PI.exec_eq]at h
 simp only[Ywi]at h
 obtain⟨⟨d,st⟩,h1,rfl⟩:=h
 unfold PI.step at h1
 split at h1
 ·cases h1
 ·simp only[Ywh,Ywj]at h1; rw[h1.2]
 ·obtain⟨ks,rfl⟩:=yuw x.op hc h1
  exact ye5 ks s.st
theorem yM0{G:Glob}{T:Tbl}{x:PI}{s s1:PS}(h:x.exec G T s=some s1):∃ d,s1.fr=s.fr.put x.dst d:=by
 rw[PI.exec_eq]at h
 simp only[Ywi]at h
 obtain⟨⟨d,st⟩,h1,rfl⟩:=h
 exact⟨d,rfl⟩
theorem yCy{G:Glob}{i:PI}{s s':PS}{dst:Option Nat}{d:D}(hfr:s'.fr=s.fr.put dst d)(h:∀ t,dst=some t→t∉i.reads)(hst:i.op.foot (rho G s.fr) s'.st=i.op.foot (rho G s.fr) s.st):i.foot G s'=i.foot G s:=by
 unfold PI.foot
 rw[hfr,yjz h,yPy h,hst]
theorem swapD{G:Glob}{T:Tbl}{x y:PI}{s s1 s2:PS}(h:Pair (x,x.foot G s) (y,y.foot G s1))(hx:x.exec G T s=some s1)(hy:y.exec G T s1=some s2) :
  ∃ s1',y.exec G T s=some s1'∧x.exec G T s1'=some s2∧y.foot G s=y.foot G s1∧x.foot G s1'=x.foot G s:=by
 obtain⟨hreg,h⟩:=h
 dsimp only at hreg h
 obtain⟨a1,a2,a3⟩:=yWs hreg
 rcases h with h | ⟨f,g,hf,hg,hok⟩
 ·obtain⟨s1',h1,h2⟩:=swap h hx hy
  obtain⟨_,_,_,a4⟩:=yDm h
  obtain⟨dx,ex⟩:=yM0 hx
  obtain⟨dy,ey⟩:=yM0 h1
  refine⟨s1',h1,h2,(yCy ex a1 ?_).symm,yCy ey a3 ?_⟩
  ·rcases a4 with c | c | ⟨c,_⟩ | ⟨c,_⟩
   ·exact yq8 _ (yFn hx (by omega))
   ·exact yx5 _ (by omega) _ _
   ·exact yq8 _ (yFn hx c)
   ·exact yq8 _ (yFn hx c)
  ·rcases a4 with c | c | ⟨c,_⟩ | ⟨c,_⟩
   ·exact yx5 _ (by omega) _ _
   ·exact yq8 _ (yFn h1 (by omega))
   ·exact yx5 _ c _ _
   ·exact yx5 _ c _ _
 ·have hyw:y.wanted s1.fr=y.wanted s.fr:=by
   obtain⟨dx,ex⟩:=yM0 hx
   rw[ex]; exact yjz a1
  rw[PI.exec_eq]at hx hy
  simp only[Ywi]at hx hy
  obtain⟨⟨dx,stx⟩,hx,rfl⟩:=hx
  obtain⟨⟨dy,sty⟩,hy,rfl⟩:=hy
  simp only at hy hyw hg ⊢
  have hxw:∀ d,x.wanted (s.fr.put y.dst d)=x.wanted s.fr:=fun d=>yjz a3
  have key:∀ sty',y.step G T s=some (dy,sty')→(∀ d,x.step G T {fr:=s.fr.put y.dst d,st:=sty'}=some (dx,sty))→x.op.foot (rho G s.fr) sty'=x.op.foot (rho G s.fr) s.st→y.op.foot (rho G s.fr) stx=y.op.foot (rho G s.fr) s.st→
    ∃ s1',y.exec G T s=some s1'∧x.exec G T s1'=some {fr:=(s.fr.put x.dst dx).put y.dst dy,st:=sty}∧y.foot G s=y.foot G {fr:=s.fr.put x.dst dx,st:=stx}∧x.foot G s1'=x.foot G s:=by
   intro sty' h1 h2 h3 h4
   refine⟨{fr:=s.fr.put y.dst dy,st:=sty'},by rw[PI.exec_eq,h1]; rfl,?_,(yCy (s':={fr:=s.fr.put x.dst dx,st:=stx}) rfl a1 h4).symm,yCy (s':={fr:=s.fr.put y.dst dy,st:=sty'}) rfl a3 h3⟩
   rw[PI.exec_eq,h2 dy]
   simp only[Option.map_some]
   rw[yxw s.fr dx dy a2]
  unfold PI.step at hx hy
  simp only[hyw]at hy
  cases hwx:x.wanted s.fr with
  |none=>simp[hwx]at hx
  |some bx=>
   cases hwy:y.wanted s.fr with
   |none=>simp[hwy]at hy
   |some by'=>
    cases bx with
    |false=>
     simp only[hwx,Ywh,Ywj]at hx
     obtain⟨rfl,rfl⟩:=hx
     cases by' with
     |false=>
      simp only[hwy,Ywh,Ywj]at hy
      obtain⟨rfl,rfl⟩:=hy
      exact key s.st (by simp[PI.step,hwy]) (fun d=>by simp[PI.step,hxw,hwx]) rfl rfl
     |true=>
      simp only[hwy]at hy
      rw[yg4 a1]at hy
      refine⟨{fr:=s.fr.put y.dst dy,st:=sty},by rw[PI.exec_eq]; simp[PI.step,hwy,hy],?_,?_,?_⟩
      ·rw[PI.exec_eq]
       simp only[PI.step,hxw,hwx,Option.map_some]
       rw[yxw s.fr _ dy a2]
      ·exact(yCy (s':={fr:=s.fr.put x.dst (.tup []),st:=s.st}) rfl a1 rfl).symm
      ·unfold PI.foot
       simp only[hxw,hwx]
    |true=>
     simp only[hwx]at hx
     simp only[PI.foot,hwx]at hf
     cases by' with
     |false=>
      simp only[hwy,Ywh,Ywj]at hy
      obtain⟨rfl,rfl⟩:=hy
      refine⟨{fr:=s.fr.put y.dst (.tup []),st:=s.st},by rw[PI.exec_eq]; simp[PI.step,hwy],?_,?_,?_⟩
      ·rw[PI.exec_eq]
       simp only[PI.step,hxw,hwx]
       rw[yg4 a3,hx]
       simp only[Option.map_some]
       rw[yxw s.fr dx _ a2]
      ·unfold PI.foot
       simp only[hyw,hwy]
      ·exact yCy (s':={fr:=s.fr.put y.dst (.tup []),st:=s.st}) rfl a3 rfl
     |true=>
      simp only[hwy]at hy
      rw[yg4 a1]at hy
      simp only[PI.foot,hyw,hwy]at hg
      rw[yPy a1]at hg
      obtain⟨st1',h1,h2,h3,h4⟩:=Yrv hx hf hy hg hok
      exact key st1' (by simp only[PI.step,hwy]; exact h1) (fun d=>by simp only[PI.step,hxw,hwx]; rw[yg4 a3]; exact h3) (by rw[h4,hf]) (by rw[hg,h2])
def Run(G:Glob)(T:Tbl):List (PI×Option Foot)→PS→PS→Prop
 |[],s,s'=>s'=s
 |a::l,s,s'=>a.1.foot G s=a.2∧∃ s1,a.1.exec G T s=some s1∧Run G T l s1 s'
theorem Yst{G:Glob}{T:Tbl}{i:PI×Option Foot}:∀ (l r:List (PI×Option Foot)) (s sf:PS),(∀ x∈l,Pair x i)→Run G T (l++i::r) s sf→∃ s',i.1.exec G T s=some s'∧i.1.foot G s=i.2∧Run G T (l++r) s' sf
 |[],r,s,sf,_,h=>by
  obtain⟨h1,s1,h2,h3⟩:=h
  exact⟨s1,h2,h1,h3⟩
 |x::l,r,s,sf,ha,h=>by
  obtain⟨h1,s1,h2,h3⟩:=h
  obtain⟨s2,h4,h5,h6⟩:=Yst l r s1 sf (fun y hy=>ha y (by simp[hy])) h3
  have hp:=ha x (by simp)
  have hp':Pair (x.1,x.1.foot G s) (i.1,i.1.foot G s1):=by rw[h1,h5]; exact hp
  obtain⟨s1',k1,k2,k3,k4⟩:=swapD hp' h2 h4
  exact⟨s1',k1,by rw[k3,h5],by rw[k4,h1],s2,k2,h6⟩
theorem yky{G:Glob}{T:Tbl}:∀ (l:List PI) (s sf:PS),ycg G T l s=some sf→∃ F:List (Option Foot),F.length=l.length∧Run G T (l.zip F) s sf
 |[],s,sf,h=>by
  simp only[ycg,Ywh]at h
  exact⟨[],rfl,h.symm⟩
 |i::l,s,sf,h=>by
  simp only[ycg]at h
  split at h
  ·rename_i s1 hs
   obtain⟨F,h1,h2⟩:=yky l s1 sf h
   exact⟨i.foot G s::F,by simp[h1],rfl,s1,hs,h2⟩
  ·cases h
theorem yQd{fs:List (Option Foot)}{g:Option Foot}:∀ {cs:List Nat},ckF fs g cs=true→∀ j∈cs,∃ f g':Foot,fs[j]?=some (some f)∧g=some g'∧f.ok g'=true
 |[],_,j,hj=>by cases hj
 |c::cs,h,j,hj=>by
  simp only[ckF,Bool.and_eq_true]at h
  rcases List.mem_cons.1 hj with rfl | hj
  ·have h1:=h.1
   cases hf:fs[j]? with
   |none=>rw[hf]at h1; cases h1
   |some o=>
    rw[hf]at h1
    cases o with
    |none=>cases h1
    |some f=>
     cases g with
     |none=>cases h1
     |some g'=>exact⟨f,g',rfl,rfl,h1⟩
  ·exact yQd h.2 j hj
theorem yno{G:Glob}{T:Tbl}:∀ (l:List (PI×Bool×List Nat)) (fs:List (Option Foot)) (s sf:PS),anys G T l fs s=some sf→∃ F:List (Option Foot),F.length=l.length∧Run G T ((l.map (·.1)).zip F) s sf∧
   ∀ (i:Nat) (q:PI×Bool×List Nat),l[i]?=some q→∀ j∈q.2.2,∃ f g:Foot,F[i]?=some (some g)∧f.ok g=true∧(fs[j]?=some (some f)∨(fs.length≤j∧F[j - fs.length]?=some (some f)))
 |[],fs,s,sf,h=>by
  simp only[anys,Ywh]at h
  exact⟨[],rfl,h.symm,fun i q hq=>by simp at hq⟩
 |(i0,b,cs)::l,fs,s,sf,h=>by
  simp only[anys]at h
  split at h
  case isFalse=>cases h
  rename_i hck
  split at h
  ·rename_i s1 hs
   obtain⟨F,h1,h2,h3⟩:=yno l _ s1 sf h
   refine⟨i0.foot G s::F,by simp[h1],⟨rfl,s1,hs,h2⟩,?_⟩
   intro i q hq j hj
   cases i with
   |zero=>
    simp only[List.getElem?_cons_zero,Ywh]at hq
    subst hq
    obtain⟨f,g',e1,e2,e3⟩:=yQd hck j hj
    exact⟨f,g',by simp[e2],e3,.inl e1⟩
   |succ i=>
    simp only[List.getElem?_cons_succ]at hq
    obtain⟨f,g,e1,e2,e3⟩:=h3 i q hq j hj
    refine⟨f,g,by simpa using e1,e2,?_⟩
    rcases e3 with e3 | ⟨e3,e4⟩
    ·rcases Nat.lt_trichotomy j fs.length with hjl | hjl | hjl
     ·rw[List.getElem?_append_left hjl]at e3; exact .inl e3
     ·subst hjl
      rw[List.getElem?_append_right (Nat.le_refl _)]at e3
      simp only[Nat.sub_self,List.getElem?_cons_zero,Ywh]at e3
      cases b with
      |false=>simp at e3
      |true=>exact .inr ⟨Nat.le_refl _,by simp[← e3]⟩
     ·rw[List.getElem?_eq_none (by simp; omega)]at e3; cases e3
    ·simp only[List.length_append,List.length_cons,List.length_nil]at e3 e4
     refine .inr ⟨by omega,?_⟩
     rw[show j - fs.length=(j - (fs.length+(0+1)))+1 by omega]
     simpa using e4
  ·cases h
def csOf(ms:List Nat)(l:List PI)(i:Nat)(y:PI):List Nat:=(List.range i).filter fun j=>!((ms.getD i 0).testBit j) && !((l.getD j default).apart y)
def Yqg(ms:List Nat)(l:List PI):Option (List (PI×Bool×List Nat)):=
 if l.zipIdx.all fun yi=>(csOf ms l yi.2 yi.1).all fun j=>(l.getD j default).regs yi.1 then
  some (l.zipIdx.map fun yi=>(yi.1,(l.zipIdx.map fun zj=>csOf ms l zj.2 zj.1).any (fun c=>c.contains yi.2),csOf ms l yi.2 yi.1))
 else none
theorem yDn{ms:List Nat}{l:List PI}{q:List (PI×Bool×List Nat)}(h:Yqg ms l=some q):q.length=l.length∧q.map (·.1)=l∧(∀ (i:Nat) y,l[i]?=some y→∃ b,q[i]?=some (y,b,csOf ms l i y)∧∀ j∈csOf ms l i y,(l.getD j default).regs y=true):=by
 unfold Yqg at h
 split at h
 case isFalse=>cases h
 rename_i hall
 simp only[Ywh]at h
 subst h
 refine⟨by simp,?_,?_⟩
 ·rw[List.map_map]
  apply List.ext_getElem?
  intro i
  simp only[List.getElem?_map,List.getElem?_zipIdx,Option.map_map]
  cases l[i]? <;> rfl
 ·intro i y hy
  refine⟨(l.zipIdx.map fun zj=>csOf ms l zj.2 zj.1).any (fun c=>c.contains i),?_,?_⟩
  ·simp only[List.getElem?_map,List.getElem?_zipIdx,hy,Option.map_some,Nat.zero_add]
  ·rw[List.all_eq_true]at hall
   have:=hall (y,i) (by rw[List.mk_mem_zipIdx_iff_getElem?]; exact hy)
   simpa[List.all_eq_true]using this
def yJy(ms:List Nat)(l:List PI)(bad:Option (Nat×Nat))(ord:List Nat)(p i:Nat):List Nat:=
 (List.range p).filter fun j=>!((ms.getD i 0).testBit (ord.getD j 0)) && !((l.getD (ord.getD j 0) default).apart (l.getD i default)) && !(bad == some (ord.getD j 0,i))
def yu9(ms:List Nat)(l:List PI)(bad:Option (Nat×Nat))(ord:List Nat):Option (List (PI×Bool×List Nat)):=
 if ord.zipIdx.all fun ip=>(yJy ms l bad ord ip.2 ip.1).all fun j=>(l.getD (ord.getD j 0) default).regs (l.getD ip.1 default)then
  some (ord.zipIdx.map fun ip=>(l.getD ip.1 default,(ord.zipIdx.map fun kq=>yJy ms l bad ord kq.2 kq.1).any (fun c=>c.contains ip.2),yJy ms l bad ord ip.2 ip.1))
 else none
theorem yNv{ms:List Nat}{l:List PI}{bad:Option (Nat×Nat)}{ord:List Nat}{q:List (PI×Bool×List Nat)}(h:yu9 ms l bad ord=some q) :
  q.length=ord.length∧q.map (·.1)=ord.map (fun k=>l.getD k default)∧(∀ (p i:Nat),ord[p]?=some i→∃ b,q[p]?=some (l.getD i default,b,yJy ms l bad ord p i)∧∀ j∈yJy ms l bad ord p i,(l.getD (ord.getD j 0) default).regs (l.getD i default)=true):=by
 unfold yu9 at h
 split at h
 case isFalse=>cases h
 rename_i hall
 simp only[Ywh]at h
 subst h
 refine⟨by simp,?_,?_⟩
 ·rw[List.map_map]
  apply List.ext_getElem?
  intro i
  simp only[List.getElem?_map,List.getElem?_zipIdx,Option.map_map]
  cases ord[i]? <;> rfl
 ·intro p i hi
  refine⟨(ord.zipIdx.map fun kq=>yJy ms l bad ord kq.2 kq.1).any (fun c=>c.contains p),?_,?_⟩
  ·simp only[List.getElem?_map,List.getElem?_zipIdx,hi,Option.map_some,Nat.zero_add]
  ·rw[List.all_eq_true]at hall
   have:=hall (i,p) (by rw[List.mk_mem_zipIdx_iff_getElem?]; exact hi)
   simpa[List.all_eq_true]using this
def Yca(ms:List Nat)(l:List PI):Option (Nat×Nat):=
 match(l.zipIdx.flatMap fun yi=>((l.take yi.2).zipIdx.filter fun xj=>xj.1.op.push && yi.1.op.push && !((ms.getD yi.2 0).testBit xj.2)).map fun xj=>(xj.2,yi.2))with
 |[p]=>some p
 |_=>none
def POp.push2:POp→Bool
 |.box _ | .mkslc _ _ _ _ _ | .app _ _ _ _ | .mcall _ _=>true
 |_=>false
def yQs(ms:List Nat)(l:List PI):List (Nat×Nat):=
 l.zipIdx.flatMap fun yi=>((l.take yi.2).zipIdx.filter fun xj=>xj.1.op.push2 && yi.1.op.push2 && !((ms.getD yi.2 0).testBit xj.2)).map fun xj=>(xj.2,yi.2)
def ord2(ms:List Nat)(m x y:Nat):List Nat:=
 (List.range m).filter (fun k=>k<x || (k<y && (ms.getD y 0).testBit k) || k == y)++(List.range m).filter (fun k=>!(k<x || (k<y && (ms.getD y 0).testBit k) || k == y))
def yJa(m:Nat)(ord:List Nat):Bool:=ord.length == m && (List.range m).all (fun k=>ord.contains k)
def altL(keep:List Nat)(ms:List Nat)(l:List PI)(m:Nat):List (Nat×Nat)→PC
 |[]=>.fail
 |(x,y)::r=>match yu9 ms l (some (x,y)) (List.range m),yu9 ms l (some (y,x)) (ord2 ms m x y)with
  |some q1,some q2=>if yJa m (ord2 ms m x y) && x != y && decide (x<m) && decide (y<m)then .alt (.any2 keep q1 q2) (altL keep ms l m r)else altL keep ms l m r
  |_,_=>altL keep ms l m r
end Go.Proofs.YtijnglngaogdjaaGreatDoor.PI
