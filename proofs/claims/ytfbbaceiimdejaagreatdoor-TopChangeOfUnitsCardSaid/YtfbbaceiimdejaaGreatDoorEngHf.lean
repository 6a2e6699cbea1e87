/-
  A function that puts off a call behind three pieces of other code: its contract out of what its code comes to.
  Conditions: none; these are definitions and lemmas.
-/
import Derived.Test.YtfbbaceiimdejaaGreatDoorEngHd
import Derived.Test.YtfbbaceiimdejaaGreatDoorEngW
set_option linter.unusedVariables false
set_option linter.unusedSimpArgs false
namespace Go.Proofs.YtfbbaceiimdejaaGreatDoor.PI
open Go Go.RowKit
structure PFE where
 init:PC
 tail:PFD
 deriving Inhabited
noncomputable def PFD.from(G:Glob) (T:Tbl) (H:HTbl) (F:PFD) (fuel:Nat) (s:PS):Option (D×St):=
 match execs G T F.pre s with
 |some s1=>match putOff (rho G s1.fr F.hf) (F.ha.map (rho G s1.fr))with
  |some (f,das)=>match H f with
   |some h=>match F.code.exec G T fuel s1 with
    |some (.next,s) | some (.ret,s)=>(raws s F.res).map fun l=>(pack l,s.st)
    |some (.panic t d,s)=>match h t d das s.st with
     |some st3=>(raws ⟨s.fr,st3⟩ F.res).map fun l=>(pack l,st3)
     |none=>none
    |_=>none
   |none=>none
  |none=>none
 |none=>none
noncomputable def PFE.runI(G:Glob)(T:Tbl)(H:HTbl)(F:PFE)(fuel:Nat)(ds:List D)(st:St):Option (D×St):=
 match F.init.exec G T fuel {fr:=argF ds,st} with
 |some (.next,s)=>F.tail.from G T H fuel s
 |some (.ret,s)=>(raws s F.tail.res).map fun l=>(pack l,s.st)
 |_=>none
def trFE(P:Program)(il:List Nat)(f:Nat)(hints:List (List Nat)):Option PFE:=
 match P.funcs[f]? with
 |some fn=>match fn.body with
  |some (.seq c0 (.seq c1 (.seq (.region _ ops1 false) rest)))=>match ops1.toList.reverse with
   |o::rpre=>match trC P il fn.ntmps hints c0 with
    |some (p0,hints1)=>match trC P il fn.ntmps hints1 c1 with
     |some (p1,hints2)=>match trIsU P il fn.ntmps ops1 rpre.reverse,trC P il fn.ntmps hints2 rest,trRes P fn.results.toList with
      |some pre1,some (pc,_),some res=>match o.op,o.guard,o.dst with
       |.defer c,none,none=>match c.callee with
        |.value x=>match trA x,trAs c.args.toList with
         |some hf,some ha=>if fn.name == "runtime.NumGoroutine" then none else some {init:=.seq p0 p1,tail:={pre:=pre1,hf,ha,code:=pc,res}}
         |_,_=>none
        |_=>none
       |_,_,_=>none
      |_,_,_=>none
     |none=>none
    |none=>none
   |[]=>none
  |_=>none
 |none=>none
section
variable {P:Program} {G:Glob} {T:Tbl} {il:List Nat}
theorem fun_simE(hT:TblOK P G T)(hy:T.y=fun _ _ _=>none){f:Nat}{hints:List (List Nat)}{F:PFE}(ht:trFE P il f hints=some F){H:HTbl}(hH:∀ f h,H f=some h→HContract P G f h)(fuel:Nat):IContract P G f (F.runI G T H fuel):=by
 unfold trFE at ht
 split at ht
 case h_2=>cases ht
 rename_i fn hfn
 split at ht
 case h_2=>cases ht
 rename_i c0 c1 id1 ops1 rest hc
 split at ht
 case h_2=>cases ht
 rename_i o rpre hops1
 split at ht
 case h_2=>cases ht
 rename_i p0 hints1 hp0
 split at ht
 case h_2=>cases ht
 rename_i p1 hints2 hp1
 split at ht
 case h_2=>cases ht
 rename_i pre1 pc hrest res hpre1 htc htr
 split at ht
 case h_2=>cases ht
 rename_i c hop hgd hds
 split at ht
 case h_2=>cases ht
 rename_i x hcal
 split at ht
 case h_2=>cases ht
 rename_i hf ha hhf hha
 split at ht
 ·cases ht
 rename_i hname
 simp only[Option.some.injEq]at ht; subst ht
 refine⟨⟨fn,hfn,by rw[hc]; rfl,by simpa using hname⟩,?_⟩
 intro base w g st st' ds vs d hsp hS hG hlen hrep
 simp only[PFE.runI,PC.exec]at hsp
 refine callsIn_wide.1 (callsIn_of_wp_marks (F:=Fence.wide) (n:=0) hfn hc trivial ?_)
 have fin0:∀ (s0:PS) (a':Act) (w3:World),(raws s0 res).map (fun l=>(pack l,s0.st))=some (d,st')→R G base fn.ntmps w g st [] s0 a' w3→
   LeavesInM Fence.wide 0 P fn a'.tmps (fun e w'=>∃ v g',e=.returned v∧Go1 base w g st w' g' st'∧RepV w' g' st' d v) a'.defers .returning w3:=by
  rintro s0 a' w3 hsp ⟨g3,h⟩
  obtain⟨dd,hd1,hd2⟩:=h.df
  rw[List.append_nil]at hd1
  rw[hd1]
  exact leaves_ok (P:=P) (fn:=fn) (R:=fun e w'=>∃ v g',e=.returned v∧Go1 base w g st w' g' st'∧RepV w' g' st' d v) hS.size dd w3 h.go1 h.fr hd2 (fun w4 hgo4 hF4=>by
    simp only[Option.map_eq_some_iff,Prod.mk.injEq]at hsp
    obtain⟨xs,hx1,rfl,rfl⟩:=hsp
    obtain⟨us,e1,e2,e3⟩:=raws_run hgo4.sr hF4 htr hx1
    exact⟨_,results_run e3,_,g3,rfl,hgo4,pack_rep e1 e2⟩)
 have start:=start_R (fn:=fn) (vs:=vs) hS hG hlen hrep
 cases h0:p0.exec G T fuel {fr:=argF ds,st} with
 |none=>rw[h0]at hsp; cases hsp
 |some r0=>
 obtain⟨e0,s00⟩:=r0
 rw[h0]at hsp
 cases e0 with
 |exit i=>cases hsp
 |panic t x=>cases hsp
 |ret=>
  exact wpIn_seq (code_sim hT c0 none (.inl rfl) w g st [] (by rw[hy]; exact YOK.none) hS.size hints (p0,hints1) hp0 fuel _ s00 _ h0 _ w _ start fun a' w3 h=>fin0 s00 a' w3 hsp h)
 |next=>
 simp only at hsp
 refine wpIn_seq (code_sim hT c0 none (.inl rfl) w g st [] (by rw[hy]; exact YOK.none) hS.size hints (p0,hints1) hp0 fuel _ s00 _ h0 _ w _ start ?_)
 intro a00 w00 hR00
 show Code.wpIn _ _ _ _ _ _ _
 cases h1:p1.exec G T fuel s00 with
 |none=>rw[h1]at hsp; cases hsp
 |some r1=>
 obtain⟨e1,s0⟩:=r1
 rw[h1]at hsp
 cases e1 with
 |exit i=>cases hsp
 |panic t x=>cases hsp
 |ret=>
  exact wpIn_seq (code_sim hT c1 none (.inl rfl) w g st [] (by rw[hy]; exact YOK.none) hS.size hints1 (p1,hints2) hp1 fuel _ s0 _ h1 _ w00 _ hR00 fun a' w3 h=>fin0 s0 a' w3 hsp h)
 |next=>
 simp only at hsp
 refine wpIn_seq (code_sim hT c1 none (.inl rfl) w g st [] (by rw[hy]; exact YOK.none) hS.size hints1 (p1,hints2) hp1 fuel _ s0 _ h1 _ w00 _ hR00 ?_)
 intro a0 w0 hR0
 simp only[PFD.from]at hsp
 split at hsp
 case h_2=>cases hsp
 rename_i s1 hs1
 split at hsp
 case h_2=>cases hsp
 rename_i hfn' das hput
 split at hsp
 case h_2=>cases hsp
 rename_i h hHf
 show Code.wpIn _ _ _ _ _ _ _
 refine wpIn_seq (wpIn_region_list ?_)
 have hl:ops1.toList=rpre.reverse++[o]:=by
  have:=congrArg List.reverse hops1
  simpa using this
 rw[hl]
 refine list_simUR (r:=none) hT (by rw[hy]; exact YOK.none) _ _ _ _ _ _ hpre1 hs1 hR0 ?_
 rintro a1 w1 ⟨g1,h1⟩
 obtain⟨dst,op,ty,pos,after,guard⟩:=o
 simp only at hop hgd hds
 subst hop; subst hgd; subst hds
 obtain⟨dd,hd1,hd2⟩:=h1.df
 rw[List.append_nil]at hd1
 have hev:∀ x pa,trA x=some pa→RepV w1 g1 s1.st (rho G s1.fr pa) (a1.eval x):=fun x pa h=>trA_rep (G:=G) h1.gl h1.fr h
 have hxv:=hev _ _ hhf
 obtain⟨q1,q2⟩:=trAs_spec hev hha
 have q1:(ha.map (rho G s1.fr)).length=(c.args.toList.map a1.eval).length:=by simpa using q1
 unfold putOff at hput
 split at hput
 case h_2=>cases hput
 rename_i hf' caps hclo
 split at hput
 case isFalse=>cases hput
 rename_i hlt
 simp only[Option.some.injEq,Prod.mk.injEq]at hput
 obtain⟨rfl,rfl⟩:=hput
 rw[hclo]at hxv
 generalize hxe:a1.eval x=xv at hxv
 obtain⟨us,hul,hur,rfl⟩:∃ us:List Value,caps.length=us.length∧(∀ (i:Nat) d v,caps[i]?=some d→us[i]?=some v→RepV w1 g1 s1.st d v)∧xv=.func (.func hf') #[] us.toArray:=by
  cases hxv with
  |clo _ _ us e1 e2=>exact⟨us,e1,e2,by rw[fnOf_lt hlt,firstOf_lt hlt,capsOf_lt hlt]⟩
 have hargs:c.args.map a1.eval=(c.args.toList.map a1.eval).toArray:=by
  apply Array.ext'
  simp
 generalize hav:c.args.toList.map a1.eval=av at q1 q2 hargs
 have hdef:(Oper.semAt (Wr none).round a1.eval {dst:=none,op:=.defer c,type:=ty,pos:=pos,after:=after,guard:=none}).run P w1=.ok (.defer {target:=.fn (.func hf') us.toArray,args:=av.toArray}) w1:=by
  show(execOp a1.eval {dst:=none,op:=.defer c,type:=ty,pos:=pos,after:=after,guard:=none}).run P w1=_
  simp only[execOp,resolve,hcal,hargs,hxe,Deferred.ofValue,Array.empty_append]
  rfl
 have hw1:Region.wanted ({dst:=none,op:=.defer c,type:=ty,pos:=pos,after:=after,guard:=none}:Oper) (yielded ops1 a1.tmps)=true:=by simp[Region.wanted]
 simp only[wpListIn,hw1,if_true]
 refine⟨fun _ _=>trivial,?_⟩
 rw[hdef,Oper.uponIn_defer]
 show Code.wpIn _ _ _ _ _ _ _
 have hR1:R G base fn.ntmps w1 g1 s1.st ({target:=.fn (.func hf') us.toArray,args:=av.toArray}::dd) s1 ({a1 with defers:={target:=.fn (.func hf') us.toArray,args:=av.toArray}::a1.defers}.put none undef) w1:=by
  refine⟨g1,Go1.refl h1.sr,h1.fr,h1.gl,⟨[],?_,trivial⟩,h1.sz⟩
  simp[Act.put,hd1]
 obtain⟨⟨hfn',hhf,hhb,hhn⟩,hcon⟩:=hH _ _ hHf
 have hinv:∀ w2,(invoke (.fn (.func hf') us.toArray) av.toArray).run P w2=.ok (.enter hf' (av++us).toArray) w2:=by
  intro w2
  have hbn:¬ hfn'.body=none:=by
   intro e; rw[e]at hhb; cases hhb
  have hn':¬ hfn'.name= "runtime.NumGoroutine":=by simpa using hhn
  simp[invoke,callFunc,hhf,hn',hbn]
 have hdl:(ha.map (rho G s1.fr)++caps).length=(av++us).length:=by simp only[List.length_append,q1,hul]
 have hdr:=rep_append q1 q2 hur
 have hrt:=h1.go1.sr.size
 have fin:∀ (s3:PS) (a':Act) (w3:World) (g3:Ghost),(raws s3 res).map (fun l=>(pack l,s3.st))=some (d,st')→FR w3 g3 s3.st s3.fr a'→Go1 base w g st w3 g3 s3.st→DfOK w w3 dd→
   LeavesInM Fence.wide 0 P fn a'.tmps (fun e w'=>∃ v g',e=.returned v∧Go1 base w g st w' g' st'∧RepV w' g' st' d v) dd .returning w3:=by
  intro s3 a' w3 g3 hget hF hgo hdf
  have:=leaves_ok (P:=P) (fn:=fn) (R:=fun e w'=>∃ v g',e=.returned v∧Go1 base w g st w' g' st'∧RepV w' g' st' d v) hS.size dd w3 hgo hF hdf (fun w4 hgo4 hF4=>by
   simp only[Option.map_eq_some_iff,Prod.mk.injEq]at hget
   obtain⟨xs,hx1,rfl,rfl⟩:=hget
   obtain⟨us,e1,e2,e3⟩:=raws_run hgo4.sr hF4 htr hx1
   exact⟨_,results_run e3,_,g3,rfl,hgo4,pack_rep e1 e2⟩)
  exact this
 have done:∀ (e:Ex) (s':PS),pc.exec G T fuel s1=some (e,s')→(e=.next∨e=.ret)→(raws s' res).map (fun l=>(pack l,s'.st))=some (d,st')→
   ∀ a' w',R G base fn.ntmps w1 g1 s1.st ({target:=.fn (.func hf') us.toArray,args:=av.toArray}::dd) s' a' w'→LeavesInM Fence.wide 0 P fn a'.tmps (fun e w'=>∃ v g',e=.returned v∧Go1 base w g st w' g' st'∧RepV w' g' st' d v) a'.defers .returning w':=by
  rintro e s' hex he hget a' w' ⟨g2,h⟩
  obtain⟨d2,hd3,hd4⟩:=h.df
  rw[hd3]
  refine leaves_ret hrt _ d2 w' h.go1 h.fr hd4 fun w2 hgo hF=>?_
  refine⟨by simp,.inr ⟨(by intro e; cases e),.func hf',us.toArray,hf',(av++us).toArray,rfl,hinv w2,fun _ _=>trivial,?_⟩⟩
  have hG2:GlobOK G w2 g2:=h1.gl.mono hgo.im
  refine((hcon base w2 g2 s'.st _ _ hgo.sr hG2 hdl (fun i d v h1 h2=>hgo.rep (hdr i d v h1 h2))).1).mono ?_
  rintro e u w3 ⟨rfl,rfl,g3,hgo3⟩
  exact fin s' a' w3 g3 hget (hF.mono hgo3.im hgo3.evo) (h1.go1.trans (hgo.trans hgo3)) ((hd2.mono hgo.kp).mono hgo3.kp)
 split at hsp
 ·rename_i s' hex
  refine code_sim hT rest none (.inl rfl) w1 g1 s1.st _ (by rw[hy]; exact YOK.none) hrt hints2 (pc,_) htc fuel _ s' _ hex _ w1 _ hR1 fun a' w' hR'=>?_
  exact done _ s' hex (.inl rfl) hsp a' w' hR'
 ·rename_i s' hex
  refine code_sim hT rest none (.inl rfl) w1 g1 s1.st _ (by rw[hy]; exact YOK.none) hrt hints2 (pc,_) htc fuel _ s' _ hex _ w1 _ hR1 fun a' w' hR'=>?_
  exact done _ s' hex (.inr rfl) hsp a' w' hR'
 ·rename_i t d2 s' hex
  split at hsp
  case h_2=>cases hsp
  rename_i st3 hst3
  refine code_sim hT rest none (.inl rfl) w1 g1 s1.st _ (by rw[hy]; exact YOK.none) hrt hints2 (pc,_) htc fuel _ s' _ hex _ w1 _ hR1 ?_
  rintro a' w' ⟨g2,h⟩
  obtain⟨d3,hd3,hd4⟩:=h.df
  show LeavesInM Fence.wide 0 P fn a'.tmps _ a'.defers (.panicking (chainOf t d2)) w'
  rw[hd3]
  refine leaves_panic hrt _ d3 w' h.go1 h.fr hd4 fun w2 hgo hF=>?_
  refine⟨by simp,.inr ⟨(by intro e; cases e),.func hf',us.toArray,hf',(av++us).toArray,rfl,hinv w2,fun _ _=>trivial,?_⟩⟩
  have hG2:GlobOK G w2 g2:=h1.gl.mono hgo.im
  refine((hcon base w2 g2 s'.st _ _ hgo.sr hG2 hdl (fun i d v h1 h2=>hgo.rep (hdr i d v h1 h2))).2 t d2 st3 hst3).mono ?_
  rintro e u w3 ⟨rfl,rfl,g3,hgo3⟩
  exact fin ⟨s'.fr,st3⟩ a' w3 g3 hsp (hF.mono hgo3.im hgo3.evo) (h1.go1.trans (hgo.trans hgo3)) ((hd2.mono hgo.kp).mono hgo3.kp)
 ·cases hsp
def thenD(G:Glob)(T:Tbl)(F:PFD)(H:HTbl)(Kr:Frame→St→Prop)(K:(Nat→D→List D→St→Option St)→List D→Ex→Frame→St→Prop)(e:Ex)(fr:Frame)(st:St):Prop:=match e with
 |.next=>@wOps G T F.pre fr st ⟨fun fr1 st1=>@on _ (putOff (rho G fr1 F.hf) (F.ha.map (rho G fr1))) ⟨fun p=>@on _ (H p.1) ⟨fun h=>@wW G T F.code fr1 st1 ⟨K h p.2⟩⟩⟩⟩
 |.ret=>Kr fr st
 |_=>False
theorem thenD_next(G:Glob)(T:Tbl)(F:PFD)(H:HTbl)(Kr:Frame→St→Prop)(K:(Nat→D→List D→St→Option St)→List D→Ex→Frame→St→Prop)(fr:Frame)(st:St) :
  thenD G T F H Kr K .next fr st=@wOps G T F.pre fr st ⟨fun fr1 st1=>@on _ (putOff (rho G fr1 F.hf) (F.ha.map (rho G fr1))) ⟨fun p=>@on _ (H p.1) ⟨fun h=>@wW G T F.code fr1 st1 ⟨K h p.2⟩⟩⟩⟩:=(rfl)
theorem thenD_ret(G:Glob)(T:Tbl)(F:PFD)(H:HTbl)(Kr:Frame→St→Prop)(K:(Nat→D→List D→St→Option St)→List D→Ex→Frame→St→Prop)(fr:Frame)(st:St):thenD G T F H Kr K .ret fr st=Kr fr st:=(rfl)
def wEf(G:Glob)(T:Tbl)(F:PFE)(H:HTbl)(ds:List D)(st:St)(Kr:Frame→St→Prop)(K:(Nat→D→List D→St→Option St)→List D→Ex→Frame→St→Prop):Prop:=
 @wW G T F.init (argF ds) st ⟨thenD G T F.tail H Kr K⟩
theorem econtract_of{f:Nat}{hints:List (List Nat)}{F:PFE}{H:HTbl}(ht:trFE P il f hints=some F)(hT:TblOK P G T)(hH:∀ f h,H f=some h→HContract P G f h){α:Type}{enc:α→List D}{pre:α→Prop}{r:α→D}
  (h:∀ a,pre a→wEf G T F H (enc a) [] (fun fr st=>(gets ⟨fr,st⟩ F.tail.res).map pack=some (r a)) fun h das=>retDQ h das F.tail.res (r a)) (hy:T.y=fun _ _ _=>none:=by rfl):Contract P G f (spOf enc pre r):=by
 intro w g ds vs d hd hG hIm hlen hrep _
 obtain⟨a,rfl,hp,rfl⟩:=spOf_inv hd
 obtain⟨k0,e0,fr0,st0,hex0,hq⟩:=W_sound _ _ _ _ (W_of (h a hp))
 have fin:∀ (k:Nat) (fr':Frame) (st3:St),(gets ⟨fr',st3⟩ F.tail.res).map pack=some (r a)→(∀ xs,raws ⟨fr',st3⟩ F.tail.res=some xs→F.runI G T H k (enc a) []=some (pack xs,st3))→Calls P f vs.toArray w fun e w'=>∃ v g',e=.returned v∧RepV w' g' [] (r a) v∧purR (r a)=true∧ImLe w g w' g'∧(∀ b o,g'.Im b o→g.Im b o∨w.heap.size≤b)∧
   (∀ b o,g'.Im b o→(w'.cell? ⟨b,o,none⟩).isSome=true)∧Below w.heap.size w w':=by
  intro k fr' st3 hg hx
  have hI:=fun_simE hT hy ht hH k
  simp only[Option.map_eq_some_iff]at hg
  obtain⟨ys,hy1,hy2⟩:=hg
  obtain⟨xs,q1,q2⟩:=gets_raws hy1
  rw[← hy2]
  exact contract_at hI (hx xs q1) q2 w g vs hG hIm hlen hrep
 cases e0 with
 |exit i=>exact hq.elim
 |panic t x=>exact hq.elim
 |ret=>exact fin k0 fr0 st0 hq fun xs hx=>by simp only[PFE.runI,hex0 k0 (Nat.le_refl _),hx,Option.map_some]
 |next=>
  rw[thenD_next]at hq
  unfold wOps at hq
  obtain⟨fr1,st1,g1,g2⟩:=kOps_sound _ _ _ _ hq
  simp only at g2
  unfold on at g2
  split at g2
  case h_2=>exact g2.elim
  rename_i p hput
  simp only at g2
  split at g2
  case h_2=>exact g2.elim
  rename_i h' hh
  obtain⟨n,e,fr',st',h3,h5⟩:=W_sound _ _ _ _ (W_of g2)
  have m1:=hex0 (k0+n) (by omega)
  have m2:=h3 (k0+n) (by omega)
  unfold retDQ at h5
  cases e with
  |next=>exact fin (k0+n) fr' st' h5 fun xs hx=>by simp only[PFE.runI,PFD.from,m1,g1,hput,hh,m2,hx,Option.map_some]
  |ret=>exact fin (k0+n) fr' st' h5 fun xs hx=>by simp only[PFE.runI,PFD.from,m1,g1,hput,hh,m2,hx,Option.map_some]
  |exit id=>exact h5.elim
  |panic t dd=>
   simp only at h5
   unfold on at h5
   split at h5
   case h_2=>exact h5.elim
   rename_i st3 h6
   exact fin (k0+n) fr' st3 h5 fun xs hx=>by simp only[PFE.runI,PFD.from,m1,g1,hput,hh,m2,h6,hx,Option.map_some]
end
attribute [irreducible] thenD
attribute [push_cast] thenD_next thenD_ret
end Go.Proofs.YtfbbaceiimdejaaGreatDoor.PI
namespace Go.Proofs.YtfbbaceiimdejaaGreatDoor.PI
open Go
noncomputable def lawSp(tys:List Ty):List D→Option D:=fun xs=>@ite _ (HasAll tys xs) (Classical.propDecidable _) (some (.bool true)) none
theorem lawSp_true{tys:List Ty}{xs:List D}(h:HasAll tys xs):lawSp tys xs=some (.bool true):=by
 unfold lawSp; rw[if_pos h]
theorem lawSp_inv{tys:List Ty}{xs:List D}{d:D}(h:lawSp tys xs=some d):HasAll tys xs∧d=.bool true:=by
 unfold lawSp at h
 split at h
 ·rename_i hx
  simp only[Option.some.injEq]at h
  exact⟨hx,h.symm⟩
 ·cases h
theorem lawC{P:Program}{G:Glob}{T:Tbl}{il:List Nat}{f:Nat}{hints:List (List Nat)}{F:PF}(ht:trF P il f hints=some F)(hT:TblOK P G T){tys:List Ty}
  (h:∀ xs,HasAll tys xs→@wW G T F.code (argF xs) [] ⟨retQ F.res (.bool true)⟩) (hy:T.y=fun _ _ _=>none:=by rfl):Contract P G f (lawSp tys):=by
 refine fun_spec hT hy ht fun ds d hd=>?_
 obtain⟨hx,rfl⟩:=lawSp_inv hd
 exact run_of_W (W_of (h ds hx))
theorem hasAll_cons{t:Ty}{ts:List Ty}{xs:List D}(h:HasAll (t::ts) xs):∃ x r,xs=x::r∧Has t x∧HasAll ts r:=by
 cases h with
 |cons h1 h2=>exact⟨_,_,rfl,h1,h2⟩
theorem hasAll_nil{xs:List D}(h:HasAll [] xs):xs=[]:=by
 cases h; rfl
theorem has_i64{d:D}(h:Has (.int .i64) d):∃ n:Int,d=.int .i64 n∧-9223372036854775808≤n∧n<9223372036854775808:=by
 cases h with
 |int k n hw=>
  refine⟨n,rfl,?_⟩
  simp[Lit.wf,IntKind.min,IntKind.max,IntKind.signed,IntKind.bits]at hw
  omega
theorem has_u8{d:D}(h:Has (.int .u8) d):∃ b:UInt8,d=byteD b:=by
 cases h with
 |int k n hw=>
  simp[Lit.wf,IntKind.min,IntKind.max,IntKind.signed,IntKind.bits]at hw
  refine⟨UInt8.ofNat n.toNat,?_⟩
  simp[byteD]
  omega
theorem lift_map{α:Type}{f:α→D}:∀ {els:List D},(∀ x∈els,∃ a,x=f a)→∃ l:List α,els=l.map f
 |[],_=>⟨[],rfl⟩
 |e::r,h=>by
  obtain⟨a,ha⟩:=h e (by simp)
  obtain⟨l,hl⟩:=lift_map (f:=f) (els:=r) fun x hx=>h x (by simp[hx])
  exact⟨a::l,by rw[ha,hl]; rfl⟩
theorem has_agg2{t u:Ty}{d:D}(h:Has (.agg [t,u]) d):∃ x y,d=.agg (x.cells++y.cells)∧Has t x∧Has u y:=by
 cases h with
 |agg _ xs h1 h2=>
  match xs,h1 with
  |[x,y],_=>exact⟨x,y,by simp,h2 0 t x rfl rfl,h2 1 u y rfl rfl⟩
end Go.Proofs.YtfbbaceiimdejaaGreatDoor.PI
namespace Go.Proofs.YtfbbaceiimdejaaGreatDoor.PI
open Go Go.RowKit
def trFE3(P:Program)(il:List Nat)(f:Nat)(hints:List (List Nat)):Option PFE:=
  match P.funcs[f]? with
  |some fn=>match fn.body with
    |some (.seq c0 (.seq c1 (.seq c2 (.seq (.region _ ops1 false) rest))))=>match ops1.toList.reverse with
      |o::rpre=>match trC P il fn.ntmps hints c0 with
        |some (p0,hints1)=>match trC P il fn.ntmps hints1 c1 with
          |some (p1,hints2)=>match trC P il fn.ntmps hints2 c2 with
           |some (p2,hints3)=>match trIsU P il fn.ntmps ops1 rpre.reverse,trC P il fn.ntmps hints3 rest,trRes P fn.results.toList with
            |some pre1,some (pc,_),some res=>match o.op,o.guard,o.dst with
              |.defer c,none,none=>match c.callee with
                |.value x=>match trA x,trAs c.args.toList with
                  |some hf,some ha=>if fn.name == "runtime.NumGoroutine" then none else some {init:=.seq p0 (.seq p1 p2),tail:={pre:=pre1,hf,ha,code:=pc,res}}
                  |_,_=>none
                |_=>none
              |_,_,_=>none
            |_,_,_=>none
           |none=>none
          |none=>none
        |none=>none
      |[]=>none
    |_=>none
  |none=>none
section
variable {P:Program} {G:Glob} {T:Tbl} {il:List Nat}
theorem fun_simE3(hT:TblOK P G T)(hy:T.y=fun _ _ _=>none){f:Nat}{hints:List (List Nat)}{F:PFE}(ht:trFE3 P il f hints=some F){H:HTbl}(hH:∀ f h,H f=some h→HContract P G f h)(fuel:Nat):IContract P G f (F.runI G T H fuel):=by
  unfold trFE3 at ht
  split at ht
  case h_2=>cases ht
  rename_i fn hfn
  split at ht
  case h_2=>cases ht
  rename_i c0 c1 c2 id1 ops1 rest hc
  split at ht
  case h_2=>cases ht
  rename_i o rpre hops1
  split at ht
  case h_2=>cases ht
  rename_i p0 hints1 hp0
  split at ht
  case h_2=>cases ht
  rename_i p1 hints2 hp1
  split at ht
  case h_2=>cases ht
  rename_i p2 hints3 hp2
  split at ht
  case h_2=>cases ht
  rename_i pre1 pc hrest res hpre1 htc htr
  split at ht
  case h_2=>cases ht
  rename_i c hop hgd hds
  split at ht
  case h_2=>cases ht
  rename_i x hcal
  split at ht
  case h_2=>cases ht
  rename_i hf ha hhf hha
  split at ht
  · cases ht
  rename_i hname
  simp only[Option.some.injEq]at ht; subst ht
  refine⟨⟨fn,hfn,by rw[hc]; rfl,by simpa using hname⟩,?_⟩
  intro base w g st st' ds vs d hsp hS hG hlen hrep
  simp only[PFE.runI,PC.exec]at hsp
  refine callsIn_wide.1 (callsIn_of_wp_marks (F:=Fence.wide) (n:=0) hfn hc trivial ?_)
  have fin0:∀ (s0:PS) (a':Act) (w3:World),(raws s0 res).map (fun l=>(pack l,s0.st))=some (d,st')→R G base fn.ntmps w g st [] s0 a' w3→
      LeavesInM Fence.wide 0 P fn a'.tmps (fun e w'=>∃ v g',e=.returned v∧Go1 base w g st w' g' st'∧RepV w' g' st' d v) a'.defers .returning w3:=by
    rintro s0 a' w3 hsp ⟨g3,h⟩
    obtain⟨dd,hd1,hd2⟩:=h.df
    rw[List.append_nil]at hd1
    rw[hd1]
    exact leaves_ok (P:=P) (fn:=fn) (R:=fun e w'=>∃ v g',e=.returned v∧Go1 base w g st w' g' st'∧RepV w' g' st' d v) hS.size dd w3 h.go1 h.fr hd2 (fun w4 hgo4 hF4=>by
        simp only[Option.map_eq_some_iff,Prod.mk.injEq]at hsp
        obtain⟨xs,hx1,rfl,rfl⟩:=hsp
        obtain⟨us,e1,e2,e3⟩:=raws_run hgo4.sr hF4 htr hx1
        exact⟨_,results_run e3,_,g3,rfl,hgo4,pack_rep e1 e2⟩)
  have start:=start_R (fn:=fn) (vs:=vs) hS hG hlen hrep
  cases h0:p0.exec G T fuel {fr:=argF ds,st} with
  |none=>rw[h0]at hsp; cases hsp
  |some r0=>
  obtain⟨e0,s00⟩:=r0
  rw[h0]at hsp
  cases e0 with
  |exit i=>cases hsp
  |panic t x=>cases hsp
  |ret=>
    exact wpIn_seq (code_sim hT c0 none (.inl rfl) w g st [] (by rw[hy]; exact YOK.none) hS.size hints (p0,hints1) hp0 fuel _ s00 _ h0 _ w _ start fun a' w3 h=>fin0 s00 a' w3 hsp h)
  |next=>
  simp only at hsp
  refine wpIn_seq (code_sim hT c0 none (.inl rfl) w g st [] (by rw[hy]; exact YOK.none) hS.size hints (p0,hints1) hp0 fuel _ s00 _ h0 _ w _ start ?_)
  intro a00 w00 hR00
  show Code.wpIn _ _ _ _ _ _ _
  cases h1:p1.exec G T fuel s00 with
  |none=>rw[h1]at hsp; cases hsp
  |some r1=>
  obtain⟨e1,s01⟩:=r1
  rw[h1]at hsp
  cases e1 with
  |exit i=>cases hsp
  |panic t x=>cases hsp
  |ret=>
    exact wpIn_seq (code_sim hT c1 none (.inl rfl) w g st [] (by rw[hy]; exact YOK.none) hS.size hints1 (p1,hints2) hp1 fuel _ s01 _ h1 _ w00 _ hR00 fun a' w3 h=>fin0 s01 a' w3 hsp h)
  |next=>
  simp only at hsp
  refine wpIn_seq (code_sim hT c1 none (.inl rfl) w g st [] (by rw[hy]; exact YOK.none) hS.size hints1 (p1,hints2) hp1 fuel _ s01 _ h1 _ w00 _ hR00 ?_)
  intro a01 w01 hR01
  show Code.wpIn _ _ _ _ _ _ _
  cases h2:p2.exec G T fuel s01 with
  |none=>rw[h2]at hsp; cases hsp
  |some r2=>
  obtain⟨e2,s0⟩:=r2
  rw[h2]at hsp
  cases e2 with
  |exit i=>cases hsp
  |panic t x=>cases hsp
  |ret=>
    exact wpIn_seq (code_sim hT c2 none (.inl rfl) w g st [] (by rw[hy]; exact YOK.none) hS.size hints2 (p2,hints3) hp2 fuel _ s0 _ h2 _ w01 _ hR01 fun a' w3 h=>fin0 s0 a' w3 hsp h)
  |next=>
  simp only at hsp
  refine wpIn_seq (code_sim hT c2 none (.inl rfl) w g st [] (by rw[hy]; exact YOK.none) hS.size hints2 (p2,hints3) hp2 fuel _ s0 _ h2 _ w01 _ hR01 ?_)
  intro a0 w0 hR0
  simp only[PFD.from]at hsp
  split at hsp
  case h_2=>cases hsp
  rename_i s1 hs1
  split at hsp
  case h_2=>cases hsp
  rename_i hfn' das hput
  split at hsp
  case h_2=>cases hsp
  rename_i h hHf
  show Code.wpIn _ _ _ _ _ _ _
  refine wpIn_seq (wpIn_region_list ?_)
  have hl:ops1.toList=rpre.reverse++[o]:=by
    have:=congrArg List.reverse hops1
    simpa using this
  rw[hl]
  refine list_simUR (r:=none) hT (by rw[hy]; exact YOK.none) _ _ _ _ _ _ hpre1 hs1 hR0 ?_
  rintro a1 w1 ⟨g1,h1⟩
  obtain⟨dst,op,ty,pos,after,guard⟩:=o
  simp only at hop hgd hds
  subst hop; subst hgd; subst hds
  obtain⟨dd,hd1,hd2⟩:=h1.df
  rw[List.append_nil]at hd1
  have hev:∀ x pa,trA x=some pa→RepV w1 g1 s1.st (rho G s1.fr pa) (a1.eval x):=fun x pa h=>trA_rep (G:=G) h1.gl h1.fr h
  have hxv:=hev _ _ hhf
  obtain⟨q1,q2⟩:=trAs_spec hev hha
  have q1:(ha.map (rho G s1.fr)).length=(c.args.toList.map a1.eval).length:=by simpa using q1
  unfold putOff at hput
  split at hput
  case h_2=>cases hput
  rename_i hf' caps hclo
  split at hput
  case isFalse=>cases hput
  rename_i hlt
  simp only[Option.some.injEq,Prod.mk.injEq]at hput
  obtain⟨rfl,rfl⟩:=hput
  rw[hclo]at hxv
  generalize hxe:a1.eval x=xv at hxv
  obtain⟨us,hul,hur,rfl⟩:∃ us:List Value,caps.length=us.length∧(∀ (i:Nat) d v,caps[i]?=some d→us[i]?=some v→RepV w1 g1 s1.st d v)∧xv=.func (.func hf') #[] us.toArray:=by
    cases hxv with
    |clo _ _ us e1 e2=>exact⟨us,e1,e2,by rw[fnOf_lt hlt,firstOf_lt hlt,capsOf_lt hlt]⟩
  have hargs:c.args.map a1.eval=(c.args.toList.map a1.eval).toArray:=by
    apply Array.ext'
    simp
  generalize hav:c.args.toList.map a1.eval=av at q1 q2 hargs
  have hdef:(Oper.semAt (Wr none).round a1.eval {dst:=none,op:=.defer c,type:=ty,pos:=pos,after:=after,guard:=none}).run P w1=.ok (.defer {target:=.fn (.func hf') us.toArray,args:=av.toArray}) w1:=by
    show(execOp a1.eval {dst:=none,op:=.defer c,type:=ty,pos:=pos,after:=after,guard:=none}).run P w1=_
    simp only[execOp,resolve,hcal,hargs,hxe,Deferred.ofValue,Array.empty_append]
    rfl
  have hw1:Region.wanted ({dst:=none,op:=.defer c,type:=ty,pos:=pos,after:=after,guard:=none}:Oper) (yielded ops1 a1.tmps)=true:=by simp[Region.wanted]
  simp only[wpListIn,hw1,if_true]
  refine⟨fun _ _=>trivial,?_⟩
  rw[hdef,Oper.uponIn_defer]
  show Code.wpIn _ _ _ _ _ _ _
  have hR1:R G base fn.ntmps w1 g1 s1.st ({target:=.fn (.func hf') us.toArray,args:=av.toArray}::dd) s1 ({a1 with defers:={target:=.fn (.func hf') us.toArray,args:=av.toArray}::a1.defers}.put none undef) w1:=by
    refine⟨g1,Go1.refl h1.sr,h1.fr,h1.gl,⟨[],?_,trivial⟩,h1.sz⟩
    simp[Act.put,hd1]
  obtain⟨⟨hfn',hhf,hhb,hhn⟩,hcon⟩:=hH _ _ hHf
  have hinv:∀ w2,(invoke (.fn (.func hf') us.toArray) av.toArray).run P w2=.ok (.enter hf' (av++us).toArray) w2:=by
    intro w2
    have hbn:¬ hfn'.body=none:=by
      intro e; rw[e]at hhb; cases hhb
    have hn':¬ hfn'.name= "runtime.NumGoroutine":=by simpa using hhn
    simp[invoke,callFunc,hhf,hn',hbn]
  have hdl:(ha.map (rho G s1.fr)++caps).length=(av++us).length:=by simp only[List.length_append,q1,hul]
  have hdr:=rep_append q1 q2 hur
  have hrt:=h1.go1.sr.size
  have fin:∀ (s3:PS) (a':Act) (w3:World) (g3:Ghost),(raws s3 res).map (fun l=>(pack l,s3.st))=some (d,st')→FR w3 g3 s3.st s3.fr a'→Go1 base w g st w3 g3 s3.st→DfOK w w3 dd→
      LeavesInM Fence.wide 0 P fn a'.tmps (fun e w'=>∃ v g',e=.returned v∧Go1 base w g st w' g' st'∧RepV w' g' st' d v) dd .returning w3:=by
    intro s3 a' w3 g3 hget hF hgo hdf
    have:=leaves_ok (P:=P) (fn:=fn) (R:=fun e w'=>∃ v g',e=.returned v∧Go1 base w g st w' g' st'∧RepV w' g' st' d v) hS.size dd w3 hgo hF hdf (fun w4 hgo4 hF4=>by
      simp only[Option.map_eq_some_iff,Prod.mk.injEq]at hget
      obtain⟨xs,hx1,rfl,rfl⟩:=hget
      obtain⟨us,e1,e2,e3⟩:=raws_run hgo4.sr hF4 htr hx1
      exact⟨_,results_run e3,_,g3,rfl,hgo4,pack_rep e1 e2⟩)
    exact this
  have done:∀ (e:Ex) (s':PS),pc.exec G T fuel s1=some (e,s')→(e=.next∨e=.ret)→(raws s' res).map (fun l=>(pack l,s'.st))=some (d,st')→
      ∀ a' w',R G base fn.ntmps w1 g1 s1.st ({target:=.fn (.func hf') us.toArray,args:=av.toArray}::dd) s' a' w'→LeavesInM Fence.wide 0 P fn a'.tmps (fun e w'=>∃ v g',e=.returned v∧Go1 base w g st w' g' st'∧RepV w' g' st' d v) a'.defers .returning w':=by
    rintro e s' hex he hget a' w' ⟨g2,h⟩
    obtain⟨d2,hd3,hd4⟩:=h.df
    rw[hd3]
    refine leaves_ret hrt _ d2 w' h.go1 h.fr hd4 fun w2 hgo hF=>?_
    refine⟨by simp,.inr ⟨(by intro e; cases e),.func hf',us.toArray,hf',(av++us).toArray,rfl,hinv w2,fun _ _=>trivial,?_⟩⟩
    have hG2:GlobOK G w2 g2:=h1.gl.mono hgo.im
    refine((hcon base w2 g2 s'.st _ _ hgo.sr hG2 hdl (fun i d v h1 h2=>hgo.rep (hdr i d v h1 h2))).1).mono ?_
    rintro e u w3 ⟨rfl,rfl,g3,hgo3⟩
    exact fin s' a' w3 g3 hget (hF.mono hgo3.im hgo3.evo) (h1.go1.trans (hgo.trans hgo3)) ((hd2.mono hgo.kp).mono hgo3.kp)
  split at hsp
  · rename_i s' hex
    refine code_sim hT rest none (.inl rfl) w1 g1 s1.st _ (by rw[hy]; exact YOK.none) hrt hints3 (pc,_) htc fuel _ s' _ hex _ w1 _ hR1 fun a' w' hR'=>?_
    exact done _ s' hex (.inl rfl) hsp a' w' hR'
  · rename_i s' hex
    refine code_sim hT rest none (.inl rfl) w1 g1 s1.st _ (by rw[hy]; exact YOK.none) hrt hints3 (pc,_) htc fuel _ s' _ hex _ w1 _ hR1 fun a' w' hR'=>?_
    exact done _ s' hex (.inr rfl) hsp a' w' hR'
  · rename_i t d2 s' hex
    split at hsp
    case h_2=>cases hsp
    rename_i st3 hst3
    refine code_sim hT rest none (.inl rfl) w1 g1 s1.st _ (by rw[hy]; exact YOK.none) hrt hints3 (pc,_) htc fuel _ s' _ hex _ w1 _ hR1 ?_
    rintro a' w' ⟨g2,h⟩
    obtain⟨d3,hd3,hd4⟩:=h.df
    show LeavesInM Fence.wide 0 P fn a'.tmps _ a'.defers (.panicking (chainOf t d2)) w'
    rw[hd3]
    refine leaves_panic hrt _ d3 w' h.go1 h.fr hd4 fun w2 hgo hF=>?_
    refine⟨by simp,.inr ⟨(by intro e; cases e),.func hf',us.toArray,hf',(av++us).toArray,rfl,hinv w2,fun _ _=>trivial,?_⟩⟩
    have hG2:GlobOK G w2 g2:=h1.gl.mono hgo.im
    refine((hcon base w2 g2 s'.st _ _ hgo.sr hG2 hdl (fun i d v h1 h2=>hgo.rep (hdr i d v h1 h2))).2 t d2 st3 hst3).mono ?_
    rintro e u w3 ⟨rfl,rfl,g3,hgo3⟩
    exact fin ⟨s'.fr,st3⟩ a' w3 g3 hsp (hF.mono hgo3.im hgo3.evo) (h1.go1.trans (hgo.trans hgo3)) ((hd2.mono hgo.kp).mono hgo3.kp)
  · cases hsp
end
end Go.Proofs.YtfbbaceiimdejaaGreatDoor.PI
