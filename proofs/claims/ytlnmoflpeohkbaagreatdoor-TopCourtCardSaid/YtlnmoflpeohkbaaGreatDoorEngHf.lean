/-
  A function that puts off a call behind three pieces of other code: its contract out of what its code comes to.
  Conditions: none; these are definitions and lemmas.
-/
import Derived.Test.YtlnmoflpeohkbaaGreatDoorEngLaw
open Bool renaming false->f_,true->t_
open Option renaming some->s_,none->n_
set_option maxHeartbeats 8000000
set_option maxRecDepth 20000
set_option linter.unusedSimpArgs false
set_option linter.unusedVariables false
set_option linter.defProp false
namespace Go.Proofs.YtlnmoflpeohkbaaGreatDoor.PI
open Go Go.RowKit
open Go.Code renaming wpIn->yav
open Go.Fence renaming wide->yau
open Go.Region renaming wanted->yaw
def Ywc(P:Program)(il:List Nat)(f:Nat)(hints:List (List Nat)):Option PFE:=
  match P.funcs[f]? with
  |some fn=>match fn.body with
    |some (.seq c0 (.seq c1 (.seq c2 (.seq (.region _ ops1 f_) rest))))=>match ops1.toList.reverse with
      |o::rpre=>match GK P il fn.ntmps hints c0 with
        |some (p0,hints1)=>match GK P il fn.ntmps hints1 c1 with
          |some (p1,hints2)=>match GK P il fn.ntmps hints2 c2 with
           |some (p2,hints3)=>match LF P il fn.ntmps ops1 rpre.reverse,GK P il fn.ntmps hints3 rest,Ry P fn.results.toList with
            |some pre1,s_ (pc,_),s_ res=>match o.op,o.guard,o.dst with
              |.defer c,n_,n_=>match c.callee with
                |.value x=>match Ek x,I9 c.args.toList with
                  |some hf,s_ ha=>if fn.name == "runtime.NumGoroutine" then n_ else s_ {init:=.seq p0 (.seq p1 p2),tail:={pre:=pre1,hf,ha,code:=pc,res}}
                  |_,_=>n_
                |_=>n_
              |_,_,_=>n_
            |_,_,_=>n_
           |none=>n_
          |none=>n_
        |none=>n_
      |[]=>n_
    |_=>n_
  |none=>n_
section
variable{P:Program}{G:Dy}{T:Tbl}{il:List Nat}
theorem Yhu(hT:TblOK P G T)(hy:T.y=λ_ _ _=>n_){f:Nat}{hints:List (List Nat)}{F:PFE}(ht:Ywc P il f hints=s_ F){H:HI}(hH:∀f h,H f=s_ h->Rg P G f h)(fuel:Nat):IContract P G f (F.runI G T H fuel):=by
  unfold Ywc at ht
  split at ht
  case h_2=>cases ht
  rename_i fn hfn
  split at ht
  case h_2=>cases ht
  rename_i c0 c1 c2 id1 ops1 rest hc
  split at ht
  case h_2=>cases ht
  rename_i o rpre hops1
  split at ht
  case h_2=>cases ht
  rename_i p0 hints1 hp0
  split at ht
  case h_2=>cases ht
  rename_i p1 hints2 hp1
  split at ht
  case h_2=>cases ht
  rename_i p2 hints3 hp2
  split at ht
  case h_2=>cases ht
  rename_i pre1 pc hrest res hpre1 htc htr
  split at ht
  case h_2=>cases ht
  rename_i c hop hgd hds
  split at ht
  case h_2=>cases ht
  rename_i x hcal
  split at ht
  case h_2=>cases ht
  rename_i hf ha hhf hha
  split at ht
  · cases ht
  rename_i hname;simp only[Dv]at ht;subst ht;refine⟨⟨fn,hfn,by rw[hc];rfl,by simpa using hname⟩,?_⟩;intro base w g st st' ds vs d hsp hS hG hlen hrep;simp only[PFE.runI,PC.exec]at hsp;refine callsIn_wide.1 (callsIn_of_wp_marks (F:=yau) (n:=0) hfn hc trivial ?_)
  have fin0:∀(s0:PS)(a':Act)(w3:World),(Ed s0 res).map (λl=>(DS l,s0.st))=s_ (d,st')->R G base fn.ntmps w g st [] s0 a' w3->
      LeavesInM yau 0 P fn a'.tmps (λe w'=>∃v g',e=.returned v/\Go1 base w g st w' g' st'/\RepV w' g' st' d v) a'.defers .returning w3:=by
    rintro s0 a' w3 hsp ⟨g3,h⟩;obtain⟨dd,hd1,hd2⟩:=h.df;rw[Ai]at hd1;rw[hd1]
    exact WN (P:=P) (fn:=fn) (R:=λe w'=>∃v g',e=.returned v/\Go1 base w g st w' g' st'/\RepV w' g' st' d v) hS.size dd w3 h.go1 h.fr hd2 (λw4 hgo4 hF4=>by
        simp only[D1,D4]at hsp;obtain⟨xs,hx1,rfl,rfl⟩:=hsp;obtain⟨us,e1,e2,e3⟩:=T0 hgo4.sr hF4 htr hx1;exact⟨_,Zz e3,_,g3,rfl,hgo4,WK e1 e2⟩)
  have start:=bF (fn:=fn) (vs:=vs) hS hG hlen hrep
  cases h0:p0.exec G T fuel {fr:=Du ds,st} with
  |none=>rw[h0]at hsp;cases hsp
  |some r0=>
  obtain⟨e0,s00⟩:=r0;rw[h0]at hsp
  cases e0 with
  |exit i=>cases hsp
  |panic t x=>cases hsp
  |ret=>
    exact wpIn_seq (Mx hT c0 n_ (.inl rfl) w g st [] (by rw[hy];exact YOK.none) hS.size hints (p0,hints1) hp0 fuel _ s00 _ h0 _ w _ start λa' w3 h=>fin0 s00 a' w3 hsp h)
  |next=>
  simp only at hsp;refine wpIn_seq (Mx hT c0 n_ (.inl rfl) w g st [] (by rw[hy];exact YOK.none) hS.size hints (p0,hints1) hp0 fuel _ s00 _ h0 _ w _ start ?_);intro a00 w00 hR00
  show yav _ _ _ _ _ _ _
  cases h1:p1.exec G T fuel s00 with
  |none=>rw[h1]at hsp;cases hsp
  |some r1=>
  obtain⟨e1,s01⟩:=r1;rw[h1]at hsp
  cases e1 with
  |exit i=>cases hsp
  |panic t x=>cases hsp
  |ret=>
    exact wpIn_seq (Mx hT c1 n_ (.inl rfl) w g st [] (by rw[hy];exact YOK.none) hS.size hints1 (p1,hints2) hp1 fuel _ s01 _ h1 _ w00 _ hR00 λa' w3 h=>fin0 s01 a' w3 hsp h)
  |next=>
  simp only at hsp;refine wpIn_seq (Mx hT c1 n_ (.inl rfl) w g st [] (by rw[hy];exact YOK.none) hS.size hints1 (p1,hints2) hp1 fuel _ s01 _ h1 _ w00 _ hR00 ?_);intro a01 w01 hR01
  show yav _ _ _ _ _ _ _
  cases h2:p2.exec G T fuel s01 with
  |none=>rw[h2]at hsp;cases hsp
  |some r2=>
  obtain⟨e2,s0⟩:=r2;rw[h2]at hsp
  cases e2 with
  |exit i=>cases hsp
  |panic t x=>cases hsp
  |ret=>
    exact wpIn_seq (Mx hT c2 n_ (.inl rfl) w g st [] (by rw[hy];exact YOK.none) hS.size hints2 (p2,hints3) hp2 fuel _ s0 _ h2 _ w01 _ hR01 λa' w3 h=>fin0 s0 a' w3 hsp h)
  |next=>
  simp only at hsp;refine wpIn_seq (Mx hT c2 n_ (.inl rfl) w g st [] (by rw[hy];exact YOK.none) hS.size hints2 (p2,hints3) hp2 fuel _ s0 _ h2 _ w01 _ hR01 ?_);intro a0 w0 hR0;simp only[PFD.from]at hsp
  split at hsp
  case h_2=>cases hsp
  rename_i s1 hs1
  split at hsp
  case h_2=>cases hsp
  rename_i hfn' das hput
  split at hsp
  case h_2=>cases hsp
  rename_i h hHf
  show yav _ _ _ _ _ _ _
  refine wpIn_seq (wpIn_region_list ?_)
  have hl:ops1.toList=rpre.reverse++[o]:=by
    simp_all
  rw[hl];refine Un (r:=n_) hT (by rw[hy];exact YOK.none) _ _ _ _ _ _ hpre1 hs1 hR0 ?_;rintro a1 w1 ⟨g1,h1⟩;obtain⟨dst,op,ty,pos,after,guard⟩:=o;simp only at hop hgd hds;subst hop;subst hgd;subst hds;obtain⟨dd,hd1,hd2⟩:=h1.df;rw[Ai]at hd1;have hev:∀x pa,Ek x=s_ pa->RepV w1 g1 s1.st (DJ G s1.fr pa) (a1.eval x):=λx pa h=>Ha (G:=G) h1.gl h1.fr h;have hxv:=hev _ _ hhf;obtain⟨q1,q2⟩:=Rk hev hha;have q1:(ha.map (DJ G s1.fr)).length=(c.args.toList.map a1.eval).length:=by simpa using q1
  unfold OL at hput
  split at hput
  case h_2=>cases hput
  rename_i hf' caps hclo
  split at hput
  case isFalse=>cases hput
  rename_i hlt;simp only[Dv,D4]at hput;obtain⟨rfl,rfl⟩:=hput;rw[hclo]at hxv;generalize hxe:a1.eval x=xv at hxv
  obtain⟨us,hul,hur,rfl⟩:∃us:List Value,caps.length=us.length/\(∀(i:Nat)d v,caps[i]?=s_ d->us[i]?=s_ v->RepV w1 g1 s1.st d v)/\xv=.func (.func hf') #[] us.toArray:=by
    cases hxv with
    |clo _ _ us e1 e2=>exact⟨us,e1,e2,by rw[Ss hlt,WZ hlt,WV hlt]⟩
  have hargs:c.args.map a1.eval=(c.args.toList.map a1.eval).toArray:=by
    grind
  generalize hav:c.args.toList.map a1.eval=av at q1 q2 hargs
  have hdef:(Oper.semAt (Wr n_).round a1.eval {dst:=n_,op:=.defer c,type:=ty,pos:=pos,after:=after,guard:=n_}).run P w1=.ok (.defer {target:=.fn (.func hf') us.toArray,args:=av.toArray}) w1:=by
    show(execOp a1.eval {dst:=n_,op:=.defer c,type:=ty,pos:=pos,after:=after,guard:=n_}).run P w1=_
    simp only[execOp,resolve,hcal,hargs,hxe,Deferred.ofValue,Bv];rfl
  have hw1:yaw ({dst:=n_,op:=.defer c,type:=ty,pos:=pos,after:=after,guard:=n_}:Oper) (yielded ops1 a1.tmps)=t_:=by simp[yaw]
  simp only[wpListIn,hw1,zaj];refine⟨λ_ _=>trivial,?_⟩;rw[hdef,Oper.uponIn_defer]
  show yav _ _ _ _ _ _ _
  have hR1:R G base fn.ntmps w1 g1 s1.st ({target:=.fn (.func hf') us.toArray,args:=av.toArray}::dd) s1 ({a1 with defers:={target:=.fn (.func hf') us.toArray,args:=av.toArray}::a1.defers}.put n_ undef) w1:=by
    refine⟨g1,Go1.refl h1.sr,h1.fr,h1.gl,⟨[],?_,trivial⟩,h1.sz⟩;simp[Act.put,hd1]
  obtain⟨⟨hfn',hhf,hhb,hhn⟩,hcon⟩:=hH _ _ hHf
  have hinv:∀w2,(invoke (.fn (.func hf') us.toArray) av.toArray).run P w2=.ok (.enter hf' (av++us).toArray) w2:=by
    intro w2
    have hbn:¬hfn'.body=n_:=by
      grind
    have hn':¬hfn'.name= "runtime.NumGoroutine":=by simpa using hhn
    simp[invoke,callFunc,hhf,hn',hbn]
  have hdl:(ha.map (DJ G s1.fr)++caps).length=(av++us).length:=by simp only[Ag,q1,hul]
  have hdr:=lP q1 q2 hur;have hrt:=h1.go1.sr.size
  have fin:∀(s3:PS)(a':Act)(w3:World)(g3:Ghost),(Ed s3 res).map (λl=>(DS l,s3.st))=s_ (d,st')->FR w3 g3 s3.st s3.fr a'->Go1 base w g st w3 g3 s3.st->DfOK w w3 dd->
      LeavesInM yau 0 P fn a'.tmps (λe w'=>∃v g',e=.returned v/\Go1 base w g st w' g' st'/\RepV w' g' st' d v) dd .returning w3:=by
    intro s3 a' w3 g3 hget hF hgo hdf
    have:=WN (P:=P) (fn:=fn) (R:=λe w'=>∃v g',e=.returned v/\Go1 base w g st w' g' st'/\RepV w' g' st' d v) hS.size dd w3 hgo hF hdf (λw4 hgo4 hF4=>by
      simp only[D1,D4]at hget;obtain⟨xs,hx1,rfl,rfl⟩:=hget;obtain⟨us,e1,e2,e3⟩:=T0 hgo4.sr hF4 htr hx1;exact⟨_,Zz e3,_,g3,rfl,hgo4,WK e1 e2⟩)
    exact this
  have done:∀(e:Ex)(s':PS),pc.exec G T fuel s1=s_ (e,s')->(e=.next\/e=.ret)->(Ed s' res).map (λl=>(DS l,s'.st))=s_ (d,st')->
      ∀a' w',R G base fn.ntmps w1 g1 s1.st ({target:=.fn (.func hf') us.toArray,args:=av.toArray}::dd) s' a' w'->LeavesInM yau 0 P fn a'.tmps (λe w'=>∃v g',e=.returned v/\Go1 base w g st w' g' st'/\RepV w' g' st' d v) a'.defers .returning w':=by
    rintro e s' hex he hget a' w' ⟨g2,h⟩;obtain⟨d2,hd3,hd4⟩:=h.df;rw[hd3];refine tC hrt _ d2 w' h.go1 h.fr hd4 λw2 hgo hF=>?_;refine⟨zac,.inr ⟨(by intro e;cases e),.func hf',us.toArray,hf',(av++us).toArray,rfl,hinv w2,λ_ _=>trivial,?_⟩⟩;have hG2:GlobOK G w2 g2:=h1.gl.mono hgo.im;refine((hcon base w2 g2 s'.st _ _ hgo.sr hG2 hdl (λi d v h1 h2=>hgo.rep (hdr i d v h1 h2))).1).mono ?_;rintro e u w3 ⟨rfl,rfl,g3,hgo3⟩;exact fin s' a' w3 g3 hget (hF.mono hgo3.im hgo3.evo) (h1.go1.trans (hgo.trans hgo3)) ((hd2.mono hgo.kp).mono hgo3.kp)
  split at hsp
  · rename_i s' hex;refine Mx hT rest n_ (.inl rfl) w1 g1 s1.st _ (by rw[hy];exact YOK.none) hrt hints3 (pc,_) htc fuel _ s' _ hex _ w1 _ hR1 λa' w' hR'=>?_;exact done _ s' hex (.inl rfl) hsp a' w' hR'
  · rename_i s' hex;refine Mx hT rest n_ (.inl rfl) w1 g1 s1.st _ (by rw[hy];exact YOK.none) hrt hints3 (pc,_) htc fuel _ s' _ hex _ w1 _ hR1 λa' w' hR'=>?_;exact done _ s' hex (.inr rfl) hsp a' w' hR'
  · rename_i t d2 s' hex
    split at hsp
    case h_2=>cases hsp
    rename_i st3 hst3;refine Mx hT rest n_ (.inl rfl) w1 g1 s1.st _ (by rw[hy];exact YOK.none) hrt hints3 (pc,_) htc fuel _ s' _ hex _ w1 _ hR1 ?_;rintro a' w' ⟨g2,h⟩;obtain⟨d3,hd3,hd4⟩:=h.df
    show LeavesInM yau 0 P fn a'.tmps _ a'.defers (.panicking (MJ t d2)) w'
    rw[hd3];refine mQ hrt _ d3 w' h.go1 h.fr hd4 λw2 hgo hF=>?_;refine⟨zac,.inr ⟨(by intro e;cases e),.func hf',us.toArray,hf',(av++us).toArray,rfl,hinv w2,λ_ _=>trivial,?_⟩⟩;have hG2:GlobOK G w2 g2:=h1.gl.mono hgo.im;refine((hcon base w2 g2 s'.st _ _ hgo.sr hG2 hdl (λi d v h1 h2=>hgo.rep (hdr i d v h1 h2))).2 t d2 st3 hst3).mono ?_;rintro e u w3 ⟨rfl,rfl,g3,hgo3⟩;exact fin ⟨s'.fr,st3⟩ a' w3 g3 hsp (hF.mono hgo3.im hgo3.evo) (h1.go1.trans (hgo.trans hgo3)) ((hd2.mono hgo.kp).mono hgo3.kp)
  · cases hsp
