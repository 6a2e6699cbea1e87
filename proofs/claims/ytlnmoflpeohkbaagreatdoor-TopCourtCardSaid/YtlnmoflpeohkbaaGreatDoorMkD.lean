/-
  merkle: the trees of the program: levels and the closures that it calls.
  Conditions: none; these are lemmas.
-/
import Derived.Test.YtlnmoflpeohkbaaGreatDoorEngLaw
import Derived.Test.YtlnmoflpeohkbaaGreatDoorTaR
import Derived.Test.YtlnmoflpeohkbaaGreatDoorTeA
import Derived.Test.YtlnmoflpeohkbaaGreatDoorFnsG
import Derived.Test.YtlnmoflpeohkbaaGreatDoorArF
open Inhabited renaming default->d_
open Bool renaming false->f_,true->t_
open Option renaming some->s_,none->n_
open Array renaming replicate->Dc
open Int renaming reduceAdd->Dh,reduceLT->Dj,reduceNatCast'->C5,reduceNeg->Da,reducePow->Di,reduceToNat->Df
open List renaming replicate->C7
open Nat renaming reduceAdd->C6,reduceBEq->Dp,reduceEqDiff->C3,reduceLT->Dd,reduceLeDiff->Db
open Prod renaming fst->Dl,snd->Dn
set_option maxHeartbeats 8000000
set_option maxRecDepth 20000
set_option linter.unusedSimpArgs false
set_option linter.unusedVariables false
set_option linter.defProp false
noncomputable section
namespace Go.Proofs.YtlnmoflpeohkbaaGreatDoor.PI
open Go Go.RowKit
open D renaming int->I,slc->O,agg->U,bool->V,ptr->Y
open Go.IntKind renaming i64->J
open Go.Code renaming wpIn->yav
open D renaming isCell->yaa
open Go.Fence renaming wide->yau
open Go.Region renaming wanted->yaw
structure PFL where
 c0:PC
 b0:Nat
 hd:PC
 bd:PC
 pre:List PI
 hf:PA
 tl:PC
 rest:PC
def U9(P:Program)(il:List Nat)(f:Nat):Option PFL:=
 match P.funcs[f]? with
 |some fn=>match fn.body with
  |some (.seq r0 (.seq (.seq r1 (.block b0 (.loop (.seq hd (.seq cn (.seq (.block _ (.seq p1 (.seq p2 (.seq p3 (.region _ ops f_))))) tl)))))) rest))=>match ops.toList.reverse with
   |o::rpre=>match GK P il fn.ntmps [] r0,GK P il fn.ntmps [] r1,GK P il fn.ntmps [] hd,GK P il fn.ntmps [] cn with
    |some (x0,_),s_ (x1,_),s_ (xh,_),s_ (xc,_)=>match GK P il fn.ntmps [] p1,GK P il fn.ntmps [] p2,GK P il fn.ntmps [] p3,LF P il fn.ntmps ops rpre.reverse with
     |some (y1,_),s_ (y2,_),s_ (y3,_),s_ pre=>match GK P il fn.ntmps [] tl,GK P il fn.ntmps [] rest,fn.results.toList with
      |some (xt,_),s_ (xr,_),[]=>match o.op,o.guard,o.dst with
       |.defer c,n_,n_=>match c.callee,c.args.toList with
        |.value x,[]=>match Ek x with
         |some hf=>if fn.name == "runtime.NumGoroutine" then n_ else s_ {c0:=.seq x0 x1,b0,hd:=.seq xh xc,bd:=.seq y1 (.seq y2 y3),pre,hf,tl:=xt,rest:=xr}
         |none=>n_
        |_,_=>n_
       |_,_,_=>n_
      |_,_,_=>n_
     |_,_,_,_=>n_
    |_,_,_,_=>n_
   |[]=>n_
  |_=>n_
 |none=>n_
variable{cs:List (List D)}{ds:List Deferred}{st':St}{g g':Ghost}{w w' w0:World}{fh:Nat}{s s':PS}{a:Act}
section
variable{P:Program}{G:Dy}
inductive Mix (fh:Nat) (w0 w:World) (g:Ghost) (st:St):List Deferred->List (List D)->Prop where
 |nil:Mix fh w0 w g st [] []
 |mark (m:Nat) (ds:List Deferred) (cs:List (List D)):w.heap[m]?=s_ (.deferred (s_ []))->w0.heap[m]?=n_->(∀d'∈ds,d'≠{target:=.collected m,args:=#[]})->Mix fh w0 w g st ds cs->Mix fh w0 w g st ({target:=.collected m,args:=#[]}::ds) cs
 |fn (us:List Value) (c:List D) (ds:List Deferred) (cs:List (List D)):c.length=us.length->(∀(i:Nat)d v,c[i]?=s_ d->us[i]?=s_ v->RepV w g st d v)->Mix fh w0 w g st ds cs->Mix fh w0 w g st ({target:=.fn (.func fh) us.toArray,args:=#[]}::ds) (c::cs)
theorem Mix.mono{st:St}(h1:∀d v,RepV w g st d v->RepV w' g' st' d v)(h2:∀(b:Nat)(o:Go.Obj),w.heap[b]?=s_ o->special o=t_->Kept w' b o)(h:Mix fh w0 w g st ds cs):Mix fh w0 w' g' st' ds cs:=by
 induction h with
 |nil=>exact .nil
 |mark m ds cs E N e3 _ ih=>exact .mark m ds cs (h2 m _ E rfl).def' N e3 ih
 |fn us c ds cs E N _ ih=>exact .fn us c ds cs E (λi d v a b=>h1 d v (N i d v a b)) ih
theorem Mix.marks{st:St}(h:Mix fh w0 w g st ds cs):∀m,({target:=.collected m,args:=#[]}:Deferred)∈ds->∃o,w.heap[m]?=s_ o:=by
 induction h with
 |nil=>intro D h;cases h
 |mark m ds cs N _ _ _ E=>
  grind
 |fn us c ds cs _ _ _ E=>
  grind
theorem Mix.app(hs:w0.heap.size<=w.heap.size)(h:Mix fh w0 w' g' st' ds cs)(hm:∀m,({target:=.collected m,args:=#[]}:Deferred)∈ds->∃o,w.heap[m]?=s_ o):∀{N:List Deferred},DfOK w w' N->Mix fh w0 w' g' st' (N++ds) cs
 |[],_=>h
 |d::N,⟨⟨m,h1,h2,h3,h4⟩,h5⟩=>by
  subst h1;refine .mark m _ _ h2 ?_ (λd' E=>?_) (Mix.app hs h hm h5)
  .grind
  .rcases AK.1 E with E|E
   .grind
   .grind
def Y7(P:Program)(G:Dy)(f:Nat)(sp:List D->St->Option St):Prop:=
 (∃fn,P.funcs[f]?=s_ fn/\fn.body.isSome=t_/\(fn.name == "runtime.NumGoroutine")=f_)/\
 ∀(base:Nat)(w:World)(g:Ghost)(st st':St)(ds:List D)(vs:List Value),sp ds st=s_ st'->SR base w g st->GlobOK G w g->ds.length=vs.length->(∀(i:Nat)d v,ds[i]?=s_ d->vs[i]?=s_ v->RepV w g st d v)->
  CallsDIn yau 0 P f vs.toArray .returning w λe u w'=>u=.returning/\e=.returned (.tuple #[])/\∃g',Go1 base w g st w' g' st'
def YBr{f id:Nat}{fn:Func}{ops:Array Oper}{l:List PI}{q:List (PI×Bool×List Nat)}(hfn:P.funcs[f]?=s_ fn)(hname:(fn.name == "runtime.NumGoroutine")=f_)(hres:fn.results=#[])(hc:fn.body=s_ (.region id ops t_))(hm:P.follows .mixedOrders=t_)(hl:F5 P [] fn.ntmps ops ops.toList=s_ l)(hlex:NL ops.toList=t_)(hq:UD (Fb ops.toList []) l=s_ q):
  Y7 P G f (λds st=>(GB G No q [] ⟨Du ds,st⟩).map (·.st)):=by
 refine⟨⟨fn,hfn,by rw[hc];rfl,hname⟩,?_⟩;intro base w g st st' ds vs hsp hS hG hlen hrep;simp only[A8]at hsp;obtain⟨s',hx,rfl⟩:=hsp
 have hresults:∀(tm:Array Value)(w':World),(results fn tm).run P w'=.ok (.tuple #[]) w':=by
  intro tm w';simp[results,hres]
 refine CallsDIn.mono (callsDIn_of_wp (R:=λe w'=>e=.returned (.tuple #[])/\∃g',Go1 base w g st w' g' s'.st) hfn hc trivial ?_) λe u w' h=>⟨h.1,h.2⟩;refine yC3 (G:=G) hm hl hlex hq hx (bF hS hG hlen hrep) λa' w' hR hd=>⟨hd,_,hresults _ _,rfl,?_⟩;obtain⟨g',h⟩:=hR;exact⟨g',h.go1⟩
def Se(si:List D->St->Option St):List (List D)->St->Option St
 |[],st=>s_ st
 |c::cs,st=>(si c st).bind λr=>Se si cs r
theorem tF{base:Nat}{w0:World}{g0:Ghost}{st0:St}{fh:Nat}{si:List D->St->Option St}(hH:Y7 P G fh si){fn:Func}{tm:Array Value}{R:Ending->World->Prop}(hb0:base<=w0.heap.size){stf:St}:
  ∀(ds:List Deferred)(cs:List (List D))(w:World)(g:Ghost)(st:St),Mix fh w0 w g st ds cs->Go1 base w0 g0 st0 w g st->GlobOK G w g->Se si cs st=s_ stf->
  (∀w' g',Go1 base w0 g0 st0 w' g' stf->∃v,(results fn tm).run P w'=.ok v w'/\R (.returned v) w')->LeavesInM yau 0 P fn tm R ds .returning w
 |[],cs,w,g,st,hm,hgo,hG,hr,h=>by
  cases hm;simp only[Se,AG]at hr;subst hr;exact h w g hgo
 |d::ds,cs,w,g,st,hm,hgo,hG,hr,h=>by
  cases hm with
  |mark m _ _ h2 h3 h4 h5=>
   refine⟨zac,.inl ⟨m,_,rfl,run_takeDeferred h2,?_⟩⟩;have hDw:w0.heap.size<=m:=by rw[Array.getElem?_eq_none_iff]at h3;exact h3
   have hX:=GoX.put (o':=.deferred n_) hgo.sr h2 rfl ⟨_,rfl⟩ (AT hb0 hDw);have hgo':=((hgo.x m).trans hX).fin (λo ho=>by rw[h3]at ho;cases ho);refine tF hH hb0 ds cs _ g st ?_ hgo' (hG.mono hX.im) hr h
   have key:∀(ds:List Deferred)(cs:List (List D)),Mix fh w0 w g st ds cs->(∀d'∈ds,d'≠{target:=.collected m,args:=#[]})->Mix fh w0 (w.putObj m (.deferred n_)) g st ds cs:=by
    intro ds cs hm
    induction hm with
    |nil=>exact λ_=>.nil
    |mark m' ds cs e1 e2 e3 _ ih=>
     intro hne;refine .mark m' ds cs ?_ e2 e3 (ih λd' hd'=>hne d' (by simp[hd']));rw[World.putObj_heap_other]
     .exact e1
     .grind
    |fn us c ds cs e1 e2 _ ih=>exact λhne=>.fn us c ds cs e1 (λi d v a b=>(e2 i d v a b).mono hX.im hX.evo) (ih λd' hd'=>hne d' (by simp[hd']))
   grind
  |fn us c _ cs' e1 e2 e3=>
   simp only[Se,AD]at hr;obtain⟨st',hr1,hr2⟩:=hr;obtain⟨⟨hfn',hhf,hhb,hhn⟩,hcon⟩:=hH
   have hinv:(invoke (.fn (.func fh) us.toArray) (#[]:Array Value)).run P w=.ok (.enter fh us.toArray) w:=by
    have hbn:¬hfn'.body=n_:=by
     grind
    have hn':¬hfn'.name= "runtime.NumGoroutine":=by simpa using hhn
    simp[invoke,callFunc,hhf,hn',hbn]
   refine⟨zac,.inr ⟨(by intro e;cases e),.func fh,us.toArray,fh,us.toArray,rfl,hinv,λ_ _=>trivial,?_⟩⟩;refine(hcon base w g st st' c us hr1 hgo.sr hG e1 e2).mono ?_;rintro e u w3 ⟨rfl,rfl,g3,hgo3⟩;exact tF ⟨⟨hfn',hhf,hhb,hhn⟩,hcon⟩ hb0 ds cs' w3 g3 st' (e3.mono (λd v h=>h.mono hgo3.im hgo3.evo) hgo3.kp) (hgo.trans hgo3) (hG.mono hgo3.im) hr2 h
def Ld(G:Dy)(T:Tbl)(pc:PC)(s:PS)(e:Ex)(s':PS):Prop:=∃k,pc.exec G T k s=s_ (e,s')
inductive LpR (G:Dy) (T:Tbl) (F:PFL) (fh:Nat):Nat->PS->List (List D)->PS->List (List D)->Prop where
 |stop (n:Nat) (s s':PS) (cs:List (List D)):Ld G T F.hd s (.exit F.b0) s'->LpR G T F fh n s cs s' cs
 |round (n:Nat) (s s1 s2 s3 s4 s':PS) (cs cs':List (List D)) (caps:List D):Ld G T F.hd s .next s1->Ld G T F.bd s1 .next s2->Fq G T F.pre s2=s_ s3->DJ G s3.fr F.hf=.clo fh caps->Ld G T F.tl s3 .next s4->LpR G T F fh n s4 (caps::cs) s' cs'->LpR G T F fh (n+1) s cs s' cs'
variable{T:Tbl}{il:List Nat}{n base:Nat}{w0:World}{g0:Ghost}{st0:St}{fh:Nat}
def Yic{a b:PC}{e:Ex}(h:Ld G T (.seq a b) s e s'):(∃s1,Ld G T a s .next s1/\Ld G T b s1 e s')\/(e≠.next/\Ld G T a s e s'):=by
 obtain⟨k,hk⟩:=h;simp only[PC.exec]at hk
 split at hk
 .rename_i s1 E;exact .inl ⟨s1,⟨k,E⟩,k,hk⟩
 .rename_i e1 s1 N E;simp only[AG,BV]at hk;obtain⟨rfl,rfl⟩:=hk;exact .inr ⟨N,k,E⟩
 .cases hk
theorem YF{a b:PC}(h:Ld G T (.seq a b) s .next s'):∃s1,Ld G T a s .next s1/\Ld G T b s1 .next s':=by
 rcases Yic h with h|⟨h,_⟩
 .exact h
 .grind
def LInv(G:Dy)(fh base n:Nat)(w0:World)(g0:Ghost)(st0:St)(s:PS)(cs:List (List D))(a:Act)(w:World):Prop:=
 ∃g,Go1 base w0 g0 st0 w g s.st/\FR w g s.st s.fr a/\GlobOK G w g/\Mix fh w0 w g s.st a.defers cs/\n<=a.tmps.size
theorem LInv.of_R{a':Act}(E:Go1 base w0 g0 st0 w g s.st)(N:Mix fh w0 w g s.st a.defers cs)(h:R G base n w g s.st a.defers s' a' w'):LInv G fh base n w0 g0 st0 s' cs a' w':=by obtain⟨g',h⟩:=h;obtain⟨dd,e,hd⟩:=h.df;refine⟨g',E.trans h.go1,h.fr,h.gl,?_,h.sz⟩;rw[e];exact Mix.app E.below.size (N.mono (λd v r=>r.mono h.go1.im h.go1.evo) h.go1.kp) N.marks hd
theorem LInv.toR(h:LInv G fh base n w0 g0 st0 s cs a w):∃g,Go1 base w0 g0 st0 w g s.st/\Mix fh w0 w g s.st a.defers cs/\R G base n w g s.st a.defers s a w:=by obtain⟨g,E,N,h3,h4,h5⟩:=h;exact⟨g,E,h4,g,Go1.refl E.sr,N,h3,⟨[],rfl,trivial⟩,h5⟩
def Oj(N:TblOK P G T)(hy:T.y=λ_ _ _=>n_){c:Code}{r:PC×List (List Nat)}(ht:GK P il n [] c=s_ r){e:Ex}(hx:Ld G T r.1 s e s')(hI:LInv G fh base n w0 g0 st0 s cs a w){Q:Exit->Act->World->Prop}(hQ:∀a' w',LInv G fh base n w0 g0 st0 s' cs a' w'->Q (K5 e) a' w'):c.wpIn yau 0 P Q a w:=by obtain⟨g,E,h2,h3⟩:=hI.toR;obtain⟨k,hk⟩:=hx;exact Mx N c n_ (.inl rfl) w g s.st a.defers (by rw[hy];exact YOK.none) E.sr.size [] r ht k s s' e hk a w Q h3 λa' w' hR=>hQ a' w' (.of_R E h2 hR)
theorem Yqv(hT:TblOK P G T)(hy:T.y=λ_ _ _=>n_){f:Nat}{F:PFL}(E:U9 P il f=s_ F)(a0:fh<5000000){si:List D->St->Option St}(hH:Y7 P G fh si){sp:zsF}
  (dd:∀ds st r,sp ds st=s_ r->∃N s1 s2 s3 cs,r.1=.tup []/\Ld G T F.c0 ⟨Du ds,st⟩ .next s1/\LpR G T F fh N s1 [] s2 cs/\Ld G T F.rest s2 .next s3/\Se si cs s3.st=s_ r.2):IContract P G f sp:=by
 unfold U9 at E
 split at E
 case h_2=>cases E
 rename_i fn b6
 split at E
 case h_2=>cases E
 rename_i r0 r1 b0 hd cn b1 p1 p2 p3 m9 ops tl rest hc
 split at E
 case h_2=>cases E
 rename_i o cb kd
 split at E
 case h_2=>cases E
 rename_i x0 _ x1 _ xh _ xc _ t0 t1 t2 t3
 split at E
 case h_2=>cases E
 rename_i y1 _ y2 _ y3 _ pre t4 t5 t6 t7
 split at E
 case h_2=>cases E
 rename_i xt _ xr _ t8 t9 cc
 split at E
 case h_2=>cases E
 rename_i c b7 b8 b9
 split at E
 case h_2=>cases E
 rename_i x cd kb
 split at E
 case h_2=>cases E
 rename_i hf de
 split at E
 .cases E
 rename_i b2;simp only[AG]at E;subst E;refine⟨⟨fn,b6,by rw[hc];rfl,by simpa using b2⟩,?_⟩;intro base w g st st' ds vs d ce hS hG hlen cg;obtain⟨N,s1,s2,s3,cs,ca,e1,e2,e3,e4⟩:=dd ds st _ ce;dsimp only at ca e1 e3 e4;subst ca
 have ae:∀(tm:Array Value)(w':World),(results fn tm).run P w'=.ok (.tuple #[]) w':=by
  intro tm w';have:fn.results=#[]:=Array.ext' cc;simp[results,this]
 refine callsIn_wide.1 (callsIn_of_wp_marks (F:=yau) (n:=0) b6 hc trivial ?_)
 have d0:LInv G fh base fn.ntmps w g st {fr:=Du ds,st} [] {tmps:=vs.toArray++Dc (fn.ntmps-vs.toArray.size) undef,defers:=[]} w:=by
  have h0:Mix fh w w g st [] []:=.nil;exact .of_R (s:=⟨Du ds,st⟩) (a:={tmps:=vs.toArray++Dc (fn.ntmps-vs.toArray.size) undef,defers:=[]}) (Go1.refl hS) h0 (bF hS hG hlen cg)
 obtain⟨s0,e1,d2⟩:=YF e1;refine wpIn_seq (Oj hT hy t0 e1 d0 λa1 w1 d3=>?_)
 show yav _ _ _ _ _ _ _
 refine wpIn_seq (wpIn_seq (Oj hT hy t1 d2 d3 λa2 w2 d4=>?_))
 show yav _ _ _ _ _ _ _
 have fin:∀a3 w3,LInv G fh base fn.ntmps w g st s2 cs a3 w3->rest.wpIn yau 0 P (bodyPostM yau 0 P fn λe w'=>∃v g',e=.returned v/\Go1 base w g st w' g' st'/\RepV w' g' st' (.tup []) v) a3 w3:=by
  intro a3 w3 d5;refine Oj hT hy t9 e3 d5 λa4 w4 d6=>?_;obtain⟨g4,q1,q2,q3,q4,_⟩:=d6;exact tF hH hS.size a4.defers cs w4 g4 s3.st q4 q1 q3 e4 λw5 g5 d8=>⟨_,ae _ _,_,g5,rfl,d8,.tup [] [] rfl λi d v h=>by simp at h⟩
 have d9:ops.toList=cb.reverse++[o]:=by
  simp_all
 refine wpIn_block (wpIn_loop_ghost (λm a w'=>∃s' cs',LInv G fh base fn.ntmps w g st s' cs' a w'/\LpR G T {c0:=.seq x0 x1,b0,hd:=.seq xh xc,bd:=.seq y1 (.seq y2 y3),pre,hf,tl:=xt,rest:=xr} fh m s' cs' s2 cs) N ⟨s1,[],d4,e2⟩ ?_);rintro m a w' ⟨s',cs',hI,hL⟩
 cases hL with
 |stop _ _ _ _ h=>
  rcases Yic h with⟨s5,h1,h2⟩|⟨_,h1⟩
  .refine wpIn_seq (Oj hT hy t2 h1 hI λa5 w5 bb=>?_)
   show yav _ _ _ _ _ _ _
   refine wpIn_seq (Oj hT hy t3 h2 bb λa6 w6 ad=>?_);simpa only[K5,Exit.then,Exit.inBlock,zaj]using fin a6 w6 ad
  .refine wpIn_seq (Oj hT hy t2 h1 hI λa6 w6 ad=>?_);simpa only[K5,Exit.then,Exit.inBlock,zaj]using fin a6 w6 ad
 |round m' _ sA sB sC sD _ _ _ ac h1 h2 h3 h4 h5 h6=>
  obtain⟨u0,h1,ha⟩:=YF h1;refine wpIn_seq (Oj hT hy t2 h1 hI λa5 w5 bb=>?_)
  show yav _ _ _ _ _ _ _
  refine wpIn_seq (Oj hT hy t3 ha bb λa6 w6 ad=>?_)
  show yav _ _ _ _ _ _ _
  obtain⟨u1,h2,be⟩:=YF h2;obtain⟨u2,be,c8⟩:=YF be;refine wpIn_seq (wpIn_block (wpIn_seq (Oj hT hy t4 h2 ad λa7 w7 he=>?_)))
  show yav _ _ _ _ _ _ _
  refine wpIn_seq (Oj hT hy t5 be he λa8 w8 hg=>?_)
  show yav _ _ _ _ _ _ _
  refine wpIn_seq (Oj hT hy t6 c8 hg λa9 w9 hh=>?_)
  show yav _ _ _ _ _ _ _
  obtain⟨g9,k1,k2,k3⟩:=hh.toR;refine wpIn_region_list ?_;rw[d9];refine Un (r:=n_) hT (by rw[hy];exact YOK.none) _ _ _ _ _ _ t7 h3 k3 ?_;intro a1 w1 c9;obtain⟨g1,q1,q2,q3,q4,q5⟩:LInv G fh base fn.ntmps w g st sC cs' a1 w1:=.of_R k1 k2 c9;obtain⟨dst,op,ty,pos,after,guard⟩:=o;simp only at b7 b8 b9;subst b7;subst b8;subst b9;have bf:RepV w1 g1 sC.st (DJ G sC.fr hf) (a1.eval x):=Ha (G:=G) q3 q2 de;rw[h4]at bf;generalize h7:a1.eval x=xv at bf
  obtain⟨us,h8,h9,rfl⟩:∃us:List Value,ac.length=us.length/\(∀(i:Nat)d v,ac[i]?=s_ d->us[i]?=s_ v->RepV w1 g1 sC.st d v)/\xv=.func (.func fh) #[] us.toArray:=by
   cases bf with
   |clo _ _ us e1 e2=>exact⟨us,e1,e2,by rw[Ss a0,WZ a0,WV a0]⟩
  have bg:c.args.map a1.eval=#[]:=by
   simp_all
  have da:(Oper.semAt (Wr n_).round a1.eval {dst:=n_,op:=.defer c,type:=ty,pos:=pos,after:=after,guard:=n_}).run P w1=.ok (.defer {target:=.fn (.func fh) us.toArray,args:=#[]}) w1:=by
   show(execOp a1.eval {dst:=n_,op:=.defer c,type:=ty,pos:=pos,after:=after,guard:=n_}).run P w1=_
   simp only[execOp,resolve,cd,bg,h7,Deferred.ofValue,Bv];rfl
  have ka:yaw ({dst:=n_,op:=.defer c,type:=ty,pos:=pos,after:=after,guard:=n_}:Oper) (yielded ops a1.tmps)=t_:=by simp[yaw]
  simp only[wpListIn,ka,zaj];refine⟨λ_ _=>trivial,?_⟩;rw[da,Oper.uponIn_defer]
  show yav _ _ _ _ _ _ _
  have db:LInv G fh base fn.ntmps w g st sC (ac::cs') ({a1 with defers:={target:=.fn (.func fh) us.toArray,args:=#[]}::a1.defers}.put n_ undef) w1:=
   ⟨g1,q1,q2,q3,.fn us ac _ _ h8 h9 q4,q5⟩
  exact Oj hT hy t8 h5 db λnb nc dc=>⟨m',B0 _,_,_,dc,h6⟩
end
open Go Go.RowKit
open D renaming int->I,slc->O,agg->U,bool->V,ptr->Y
open Go.IntKind renaming i64->J
def Va(P:Program)(f:Nat):Option (List (PI×Bool×List Nat)):=
 match P.funcs[f]? with
 |some fn=>match fn.body with
  |some (.region _ ops t_)=>match F5 P [] fn.ntmps ops ops.toList,fn.results.toList with
   |some l,[]=>match UD (Fb ops.toList []) l with
    |some q=>if fn.name == "runtime.NumGoroutine" || !P.follows .mixedOrders||!NL ops.toList then n_ else s_ q
    |none=>n_
   |_,_=>n_
  |_=>n_
 |none=>n_
def ySx{P:Program}{G:Dy}{f:Nat}{q:List (PI×Bool×List Nat)}(h:Va P f=s_ q):Y7 P G f (λds st=>(GB G No q [] ⟨Du ds,st⟩).map (·.st)):=by
 unfold Va at h
 split at h
 case h_2=>cases h
 rename_i fn N
 split at h
 case h_2=>cases h
 rename_i id ops hc
 split at h
 case h_2=>cases h
 rename_i l hl E
 split at h
 case h_2=>cases h
 rename_i q' hq
 split at h
 .cases h
 rename_i hn;simp only[AG]at h;subst h;simp only[A5,AN,not_or,Bool.not_eq_true,Bool.not_eq_false]at hn;exact YBr N hn.1.1 (Array.ext' E) hc hn.1.2 hl hn.2 hq
def rJ:{q // Va Tryz.prog 97=s_ q}:=⟨_,by conv=>lhs;reduce⟩
def nx(Q:Frame->St->Prop):Ex->Frame->St->Prop
 |.next,fr,st=>Q fr st
 |_,_,_=>False
theorem Wf(Q:Frame->St->Prop)(fr:Frame)(st:St):nx Q .next fr st=Q fr st:=(rfl)
variable{Q:Frame->St->Prop}{st:St}{fr:Frame}{T:Tbl}
def XB{pc:PC}(h:@wW GG T pc fr st ⟨nx Q⟩):∃E st',Ld GG T pc ⟨fr,st⟩ .next ⟨E,st'⟩/\Q E st':=by
 obtain⟨k,e,E,st',h1,N⟩:=Kp _ _ _ _ (Gr h)
 cases e with
 |next=>exact⟨E,st',⟨k,h1 k (Au _)⟩,N⟩
 |_=>exact N.elim
def exq(b:Nat)(Q:Frame->St->Prop):Ex->Frame->St->Prop
 |.exit i,fr,st=>i=b/\Q fr st
 |_,_,_=>False
theorem Yq8(b i:Nat)(Q:Frame->St->Prop)(fr:Frame)(st:St):exq b Q (.exit i) fr st=(i=b/\Q fr st):=(rfl)
def ep{pc:PC}{b:Nat}(h:@wW GG T pc fr st ⟨exq b Q⟩):∃E st',Ld GG T pc ⟨fr,st⟩ (.exit b) ⟨E,st'⟩/\Q E st':=by
 obtain⟨k,e,E,st',h1,N⟩:=Kp _ _ _ _ (Gr h)
 cases e with
 |exit i=>obtain⟨rfl,N⟩:=N;exact⟨E,st',⟨k,h1 k (Au _)⟩,N⟩
 |_=>exact N.elim
def hU:List D->St->Option St:=λds st=>(GB GG No rJ.1 [] ⟨Du ds,st⟩).map (·.st)
def jj:Y7 Tryz.prog GG 97 hU:=ySx rJ.2
variable{c:List Ins}
theorem iv{k b p a:Nat}(hc:Cp k c st)(hh:HeO k b p a st)(ha:a<c.length)(hl:c.length<=4000):∃S c',hU [Y b 0,Y p 0] st=s_ S/\EvB k st S/\Cp k c' S/\c'.length=c.length:=by
 obtain⟨kr,h1,h2⟩:=hc;obtain⟨g1,g2,g3,g4⟩:=hh;have N:c≠[]:=λh=>by subst h;cases ha
 obtain⟨h2,E⟩:=h2 N
 have key:@wW GG No (.any rJ.1) (Du [Y b 0,Y p 0]) st ⟨nx λ_ S=>∃c',EvB k st S/\Cp k c' S/\c'.length=c.length⟩:=by
  have ab:DB (s_ (M1 kr c)) 1 f_ 0=s_ (D0 kr (c.map Dt)):=rfl
  have hlen:E0 st f_ (D0 kr (c.map Dt))=s_ (I J (c.length:Int)):=by
   have:=QO (S:=st) (kr:=kr) (sz:=3) (els:=c.map Dt) (λh=>E);grind
  have ac:ER st 3 (D0 kr (c.map Dt)) (I J (a:Int))=s_ (.rptr kr c.length a 0):=by
   have:=oq (S:=st) (kr:=kr) (els:=c.map Dt) (i:=a) (sz:=3) (λ_=>E) zab (by simpa using ha);grind
  have hL:D0 kr (c.map Dt)=.row kr c.length 0 c.length:=by
   unfold D0;rw[zaf (by simpa using N),Az]
  rw[hL]at ab hlen ac;have lp:DB (s_ (zzB [Y k 0])) 1 f_ 0=s_ (Y k 0):=rfl;have li:DB (s_ (zzB [I J (a:Int)])) 1 f_ 0=s_ (I J (a:Int)):=rfl;have a0:EY st kr c.length=t_:=by unfold EY;rw[E];simp[FC]
  have a1:FE st 1 (.rptr kr c.length a 0)=s_ (.rptr kr c.length a 1):=by simp only[FE,a0,zaj,Ar]
  have a2:Le st 1 (.rptr kr c.length a 1) (I J (c.length:Int))=s_ (st.set kr (FC 3 ((c.set a ⟨c[a].op,c.length,c[a].m⟩).map Dt))):=by
   simp[Le,pT,qH,E,FC,ha,Dt,D8,UL,FZ,D.cells,Ch]
  unfold rJ
  push_cast(disch:=lia)[↓Fc,g3,g4,lp,li,h1,ab,hlen,ac,a1,a2,Wf]
  refine⟨c.set a ⟨c[a].op,c.length,c[a].m⟩,⟨zac,λj o hj ho hr=>?_⟩,⟨kr,by rw[Ac zaa,h1];simp[M1,D0,N],λ_=>⟨h2,Ap (Aa.1 E).1⟩⟩,zac⟩;rw[Ac (λe=>?_)]
  .exact ho
  .subst e;rw[E]at ho;cases ho;cases hr
 obtain⟨ba,S,⟨n,hx⟩,c',q⟩:=XB key;simp only[PC.exec]at hx
 split at hx
 .rename_i s' hs;simp only[AG,BV,zal]at hx;subst hx;exact⟨S,c',by unfold hU;rw[hs];rfl,q⟩
 .cases hx
def cF:{F // U9 Tryz.prog [52,53,96,97,2000016,2000052] 52=s_ F}:=⟨_,by conv=>lhs;reduce;simp only[Int.reduceOfNat,UInt8.reduceOfNat]⟩
abbrev J6:Tbl:=tb [] [(53,gX),(96,Ya 400)]
structure HF (k z:Nat) (i:Int) (cl:Cl) (fr:Frame):Prop where
 f0:fr 0=.ptr k 0
 f2:fr 2=.int .i64 i
 f4:fr 4=.ptr z 0
 f9:fr 9=.slc (nz 3 (cl.ws.map FN)) (cl.ws.map FN) f_
 f10:fr 10=.int .i64 (cl.ws.length:Int)
section
variable{k z j:Nat}{i:Int}{cl:Cl}{c:List Ins}{fr:Frame}{S:St}
theorem HF.set{t:Nat}{v:D}(h:HF k z i cl fr)(N:t≠0/\t≠2/\t≠4/\t≠9/\t≠10):HF k z i cl (fr.set t v):=by
 have e:∀q,q≠t->fr.set t v q=fr q:=λq E=>by simp[Frame.set,E]
 exact⟨by rw[e _ zaa];exact h.f0,by rw[e _ zaa];exact h.f2,by rw[e _ zaa];exact h.f4,by rw[e _ zaa];exact h.f9,by rw[e _ zaa];exact h.f10⟩
def zm(st:St):@wW GG J6 cF.1.c0 (Du [Y k 0,Ea cl,I J i]) st ⟨nx λfr S=>HF k st.length i cl fr/\fr 11=I J 0/\S=st++[zzB (IM cl)]⟩:=by
 unfold cF
 push_cast(disch:=lia)[Yuw,GA,sn,Az,Wf]
 exact⟨by push_cast,by push_cast,by push_cast,by push_cast,by push_cast⟩
def cC(h:HF k z i cl fr)(E:fr 11=I J (j:Int))(hj:¬j<cl.ws.length):@wW GG J6 cF.1.hd fr S ⟨exq 0 λN S'=>HF k z i cl N/\S'=S⟩:=by
 have f10:=h.f10;have aa:¬(j:Int)<cl.ws.length:=zaa
 unfold cF
 push_cast(disch:=lia)[E,f10,aa,Yq8]
 exact h.set zab
def cB(h:HF k z i cl fr)(N:fr 11=I J (j:Int))(hj:j<cl.ws.length):@wW GG J6 cF.1.hd fr S ⟨nx λE S'=>HF k z i cl E/\E 11=I J (j:Int)/\S'=S⟩:=by
 have f10:=h.f10;have aa:(j:Int)<cl.ws.length:=zaa
 unfold cF
 push_cast(disch:=lia)[N,f10,aa,Wf]
 exact h.set zab
def zh(h:HF k z i cl fr)(N:fr 11=I J (j:Int))(hj:j<1000):@wW GG J6 cF.1.tl fr S ⟨nx λE S'=>HF k z i cl E/\E 11=I J ((j+1:Nat):Int)/\S'=S⟩:=by
 unfold cF
 push_cast(disch:=lia)[N,D5,Wf]
 exact(h.set zab).set zab
def zn(h:HF k z i cl fr)(ab:fr 11=I J (j:Int))(hj:j<cl.ws.length)(hc:Cp k c S)(hl:c.length+3<=4000):@wW GG J6 (.seq cF.1.bd (.ops cF.1.pre)) fr S ⟨nx λE S'=>HF k z i cl E/\E 11=I J (j:Int)/\EvB k S S'/\∃c' b p a,E 26=Yl b p/\HeO k b p a S'/\a<c'.length/\Cp k c' S'/\c.length<=c'.length/\c'.length<=c.length+3⟩:=by
 have f0:=h.f0;have f9:=h.f9
 have N:∀st:St,ER st 3 (O (nz 3 (cl.ws.map FN)) (cl.ws.map FN) f_) (I J (j:Int))=s_ (.eptr (FN cl.ws[j]) 0):=λst=>by
  have ac:nz 3 (cl.ws.map FN)=3:=by unfold nz;rw[zaf];cases hw:cl.ws<;>simp[hw]at hj⊢
  have ad:0<=(j:Int):=zaa
  simp[ER,ac,FA,ad,hj]
 generalize cl.ws[j]=q at N;have a8:k<S.length:=by obtain⟨kr,h,_⟩:=hc;exact(Aa.1 h).1
 have y0:(S++[zzB (GD q)]:St)[S.length]?=s_ (zzB (GD q)):=GA _ _ _;obtain⟨S1,c1,_,_,a1,a2,a3,a4,_⟩:=JZ 2 q.1 0 (hc.app [zzB (GD q)]) zaa;have y1:=a2.2 _ _ zaa y0 rfl;obtain⟨S2,c2,_,_,b1,b2,b3,b4,_⟩:=JZ 12 q.2.1 q.2.2 a3 zaa;obtain⟨S3,c3,b,p,d1,d2,d3,d4,d5⟩:=JZ 13 0 0 b3 zaa;have ev:=(EvB.app k S [zzB (GD q)]).trans (a2.trans (b2.trans d2));unfold cF
 push_cast(disch:=lia)[f0,f9,ab,N,Ytn,OH,Ytf,GA,MQ,Yzg,a1,y1,YH4,YH3,b1,d1,Wf]
 refine⟨?_,ev,c3,b,p,_,rfl,d5,zaa,d3,zaa,zaa⟩
 repeat refine HF.set ?_ zab
 exact h
def YEj(h:HF k z i cl fr)(hz:S[z]?=s_ (zzB (IM cl)))(ah:z≠k)(E:cl.pay.ok)(N:cl.pay.sz<=400)(hc:Cp k c S)(hl:c.length+3*cl.pay.sz+1<=4000):@wW GG J6 cF.1.rest fr S ⟨nx λ_ S'=>EvB k S S'/\∃c',Cp k c' S'/\c.length<=c'.length/\c'.length<=c.length+3*cl.pay.sz+1⟩:=by
 have f0:=h.f0;have f2:=h.f2;have f4:=h.f4;obtain⟨S1,c1,a1,a2,a3,a4,a5⟩:=YDs 400 cl.pay N E k S c hc zaa;obtain⟨S2,c2,b,p,b1,b2,b3,b4,_⟩:=JZ 15 i 0 a3 zaa;unfold cF
 push_cast(disch:=lia)[f0,f2,f4,hz,Ti,a1,b1,Wf]
 exact⟨a2.trans b2,c2,b3,zaa,zaa⟩
end
theorem YBm{l:List PI}{s s':PS}(h:Ld GG T (.ops l) s .next s'):Fq GG T l s=s_ s':=by obtain⟨n,E⟩:=h;simp only[PC.exec]at E;grind
def AllHe(k:Nat)(cs:List (List D))(S:St)(n:Nat):Prop:=∀x∈cs,∃b p a,x=[Y b 0,Y p 0]/\HeO k b p a S/\a<n
theorem AllHe.ev{k n E:Nat}{cs:List (List D)}{S N:St}(h:AllHe k cs S n)(e:EvB k S N)(hn:n<=E):AllHe k cs N E:=λx hx=>by
 obtain⟨b,p,a,h1,h2,h3⟩:=h x hx;exact⟨b,p,a,h1,h2.ev e,zaa⟩
theorem YHo{k z:Nat}{i:Int}{cl:Cl}(hw:cl.ws.length<=400):∀(m j:Nat)(fr:Frame)(S:St)(cs:List (List D))(c:List Ins),j+m=cl.ws.length->HF k z i cl fr->fr 11=I J (j:Int)->Cp k c S->AllHe k cs S c.length->c.length+3*m<=4000->
  ∃N E S' cs' c',LpR GG J6 cF.1 97 N ⟨fr,S⟩ cs ⟨E,S'⟩ cs'/\HF k z i cl E/\EvB k S S'/\Cp k c' S'/\AllHe k cs' S' c'.length/\c.length<=c'.length/\c'.length<=c.length+3*m
 |0,j,fr,S,cs,c,hj,h,ab,hc,hh,hl=>by
  obtain⟨E,S',h1,h2,rfl⟩:=ep (cC (S:=S) h ab zaa);exact⟨0,E,_,cs,c,.stop _ _ _ _ h1,h2,.refl _ _,hc,hh,zaa,zaa⟩
 |m+1,j,fr,S,cs,c,hj,h,ab,hc,hh,hl=>by
  obtain⟨fr1,S1,a1,a2,a3,rfl⟩:=XB (cB (S:=S) h ab zaa);obtain⟨fr2,S2,b1,b2,b3,b4,c',b,p,a,b5,b6,b7,b8,b9,c0⟩:=XB (zn a2 a3 zaa hc zaa);obtain⟨⟨c1,S3⟩,d1,d2⟩:=YF b1;obtain⟨af,S4,e1,e2,e3,rfl⟩:=XB (zh (S:=S2) b2 b3 zaa)
  have ah:AllHe k ([Y b 0,Y p 0]::cs) S4 c'.length:=λx hx=>by
   rcases AB.1 hx with rfl|hx
   .exact⟨b,p,a,rfl,b6,b7⟩
   .exact(hh.ev b4 b9) x hx
  obtain⟨N,E,S',cs',a0,q1,q2,q3,q4,q5,q6,q7⟩:=YHo hw m (j+1) af _ _ c' zaa e2 e3 b8 ah zaa;exact⟨N+1,E,S',cs',a0,.round N _ _ _ _ _ _ cs cs' _ a1 d1 (YBm d2) b5 e1 q1,q2,b4.trans q3,q4,q5,zaa,zaa⟩
theorem Yd0{k:Nat}:∀(cs:List (List D))(S:St)(c:List Ins),Cp k c S->AllHe k cs S c.length->c.length<=4000->∃E c',Se hU cs S=s_ E/\EvB k S E/\Cp k c' E/\c'.length=c.length
 |[],S,c,hc,_,_=>⟨S,c,rfl,.refl _ _,hc,rfl⟩
 |x::cs,S,c,hc,hh,hl=>by
  obtain⟨b,p,a,rfl,h1,h2⟩:=hh x zac;obtain⟨S1,c1,a1,a2,a3,a4⟩:=iv hc h1 h2 hl;obtain⟨S2,c2,b1,b2,b3,b4⟩:=Yd0 cs S1 c1 a3 (λy N=>(AllHe.ev (cs:=cs) (λy N=>hh y (by simp[N])) a2 zaa) y N) zaa;exact⟨S2,c2,by simp only[Se,a1,Bj];exact b1,a2.trans b2,b3,zaa⟩
def ClP(ds:List D)(st st':St):Prop:=∃N s1 s2 s3 cs,Ld GG J6 cF.1.c0 ⟨Du ds,st⟩ .next s1/\LpR GG J6 cF.1 97 N s1 [] s2 cs/\Ld GG J6 cF.1.rest s2 .next s3/\Se hU cs s3.st=s_ st'
def QCl(ds:List D)(st:St)(st':St):Prop:=∃k c cl i,ds=[Y k 0,Ea cl,I J i]/\Cp k c st/\∃c',EvB k st st'/\Cp k c' st'/\c.length<=c'.length/\c'.length<=c.length+3*cl.ws.length+3*cl.pay.sz+1
def Pz:SI:=λds st=>@dite _ (∃st',ClP ds st st'/\QCl ds st st') (Classical.propDecidable _) (λh=>s_ (.tup [],h.choose)) (λ_=>n_)
def YLe:CI 52 Pz:=by
 refine Yqv (T:=J6) (DP all_nil (all_cons YCf (all_cons (YK5 400) all_nil))) rfl cF.2 zab jj λds st r h=>?_;unfold Pz at h
 split at h
 .rename_i E;obtain rfl:=At h;obtain⟨N,s1,s2,s3,cs,a1,a2,a3,a4⟩:=E.choose_spec.1;exact⟨N,s1,s2,s3,cs,rfl,a1,a2,a3,a4⟩
 .cases h
def Yzq{a b:Cl}(h:Ea a=Ea b):a.ws.length=b.ws.length/\a.pay=b.pay:=by simp only[Ea,IM,D.agg.injEq,Ab,D.slc.injEq,D.str.injEq,zag]at h;obtain⟨_,⟨_,E⟩,N⟩:=h;refine⟨by simpa using congrArg List.length E,Tw _ _ ?_⟩;rw[Mh,Mh,N]
def iF{k:Nat}{cl:Cl}(i:Int)(hc:Cp k c st)(aa:cl.pay.ok)(bg:cl.ws.length+cl.pay.sz<=400)(hl:c.length+3*cl.ws.length+3*cl.pay.sz+1<=4000):∃S c',Pz [Y k 0,Ea cl,I J i] st=s_ (.tup [],S)/\EvB k st S/\Cp k c' S/\c.length<=c'.length/\c'.length<=c.length+3*cl.ws.length+3*cl.pay.sz+1:=by
 have bh:k<st.length:=by obtain⟨kr,h,_⟩:=hc;exact(Aa.1 h).1
 have E:∃st',ClP [Y k 0,Ea cl,I J i] st st'/\QCl [Y k 0,Ea cl,I J i] st st':=by
  obtain⟨fr1,S1,a1,a2,a3,rfl⟩:=XB (zm (k:=k) (i:=i) (cl:=cl) st);obtain⟨N,fr2,S2,cs,c2,b1,b2,b3,b4,b5,b6,b7⟩:=YHo zaa cl.ws.length 0 fr1 _ [] c zaa a2 a3 (hc.app _) (λx h=>by cases h) zaa;obtain⟨b8,S3,d1,d2,c3,d3,d4,d5⟩:=XB (YEj b2 (b3.2 st.length _ zaa (GA _ _ _) rfl) zaa aa zaa b4 zaa);obtain⟨S4,c4,e1,e2,e3,e4⟩:=Yd0 cs S3 c3 d3 (b5.ev d2 d4) zaa;exact⟨S4,⟨N,_,_,_,cs,a1,b1,d1,e1⟩,k,c,cl,i,rfl,hc,c4,(EvB.app _ _ _).trans (b3.trans (d2.trans e2)),e3,zaa,zaa⟩
 obtain⟨k',c0,b9,i',e,ac,c',h2,h3,h4,h5⟩:=E.choose_spec.2;simp only[Ab,D.ptr.injEq,zag]at e;obtain⟨rfl,e,_⟩:=e;obtain⟨q1,q2⟩:=Yzq e;obtain rfl:=p7 hc ac;rw[<-q1,<-q2]at h5;exact⟨E.choose,c',by unfold Pz;rw[zbf E],h2,h3,h4,h5⟩
open Go
open D renaming int->I,slc->O,agg->U,bool->V,ptr->Y
open Go.IntKind renaming i64->J
def Gv(s:Sta):Out->Sta
 |.err e=>{s with status:=10+e}
 |.pop k push pc=>{s with pc:=pc.getD (s.pc+1),stack:=s.stack.take (s.stack.length-k)++push.toList}
 |.set p t c=>{s with pc:=p,status:=t,clause:=c}
def DG(s:Sta):Sta:={s with fuel:=s.fuel-1}
def Fx(v:zIL)(b:Int)(s:Sta)(x:Ins):Sta:=if s.fuel=0 then {s with status:=220} else Gv (DG s) (GP v b (DG s) x)
structure aOK (c:List Ins) (v:zIL) (s:Sta) (b:Int):Prop where
 v:Et v
 b0:0<=b
 b1:b<=64
 l:s.stack.length<=64
 p0:0<=s.pc
 p1:s.pc<c.length
 cl:c.length<=4096
 f:c.all HR=t_
 u0:0<=s.fuel
 u1:s.fuel<=32768
theorem Ysh(op a b:Int):0<=(Es op a b).2/\(Es op a b).2<=100:=by
 have E:∀c,0<=(L2 c).2/\(L2 c).2<=100:=λc=>by unfold L2;split<;>exact⟨zac,zac⟩
 have hd:∀a b m,0<=(EU a b m).2/\(EU a b m).2<=100:=λa b m=>by
  unfold EU;grind
 have ha:0<=(IS a b).2/\(IS a b).2<=100:=by unfold IS;split<;>first|exact E _|exact⟨zac,zac⟩
 have N:0<=(ID a b).2/\(ID a b).2<=100:=by unfold ID;split<;>first|exact E _|exact⟨zac,zac⟩
 have hm:0<=(IJ a b).2/\(IJ a b).2<=100:=by unfold IJ;split<;>first|exact E _|exact⟨zac,zac⟩
 have hz:∀n:Int,0<=((n,0):Int×Int).2/\((n,0):Int×Int).2<=100:=λn=>⟨zac,zac⟩;unfold Es;grind
variable{x:Ins}{s:Sta}{b:Int}{v:zIL}
def Yig{e:Int}(h:GP v b s x=.err e):1<=e/\e<=1000:=by
 have E:=Ysh x.op (Dw s 1) (Dw s 0);unfold GP Ee at h
 repeat' split at h
 all_goals first|(cases h;done)|(simp only[Out.err.injEq]at h;omega)
variable{pc push:Option Int}{k:Nat}
theorem Yif(h:GP v b s x=.pop k push pc):¬(s.stack.length:Int)<GQ x.op:=by intro E;unfold GP at h;grind
theorem YBo{p t c:Int}(h:GP v b s x=.set p t c):¬(s.stack.length:Int)<GQ x.op:=by intro E;unfold GP at h;grind
def Yib(v:zIL)(hv:Et v)(s:Sta)(b:Int):Ec [I J 0,I J 0,I J 0,I J 0,I J 0,I J 0,I J 0,I J 0,I J 0,I J 0,I J 0,I J 0,I J 0,I J 0,I J 0,I J 0,I J 0,I J 0,I J 0,I J 0,I J 0,O 0 [] t_,I J 0]
  [(0,17,EO v),(17,5,Eh s),(22,1,I J b)]=s_ (Fz v s.pc s.fuel s.status s.clause (EK s.stack) b):=by refine(Kd (cs':=Eo v++([I J 0,I J 0,I J 0,I J 0,O 0 [] t_]++[I J 0])) (A:=[]) (B:=C7 17 (I J 0)) (C:=[I J 0,I J 0,I J 0,I J 0,O 0 [] t_,I J 0]) (xs:=Eo v) rfl rfl rfl rfl rfl (IX hv) (Zd (v.1::v.2))).trans ?_;refine(Kd (cs':=Eo v++(El s++[I J 0])) (A:=Eo v) (B:=[I J 0,I J 0,I J 0,I J 0,O 0 [] t_]) (C:=[I J 0]) (xs:=El s) rfl rfl (IX hv) rfl rfl rfl (Ymj s)).trans ?_;refine(Kd (cs':=Fz v s.pc s.fuel s.status s.clause (EK s.stack) b) (A:=Eo v++El s) (B:=[I J 0]) (C:=[]) (xs:=[I J b]) zac (by simp[Fz,El]) (by simp[IX hv,El]) rfl rfl rfl rfl).trans ?_;rfl
def Yr9(v:zIL)(p f t c:Int)(sz:Nat)(els:List D)(E:Bool)(b:Int):DM (U (Fz v p f t c (O sz els E) b))=s_ (Fz v p f t c (O sz els E) b):=by
 have h:(Fz v p f t c (O sz els E) b).all yaa=t_:=by
  rw[Fz,Bo,YE,Zd];rfl
 rw[show DM (U (Fz v p f t c (O sz els E) b))=if(Fz v p f t c (O sz els E) b).all yaa then s_ (Fz v p f t c (O sz els E) b)else n_ from rfl,zae h]
def kR(v:zIL)(p f t c:Int)(l:List Int)(b:Int):DM (U (Fz v p f t c (EK l) b))=s_ (Fz v p f t c (EK l) b):=Yr9 v p f t c _ _ _ b
theorem ySi(l:List Int):(EK l).isCell=t_:=(rfl)
def Yhf(st:St)(l:List Int):DO st (EK l)=s_ (EK l):=by simp only[EK,wN,Jq]
theorem YI9(E o1 o2 N o4 o5 o6:PI.Obj)(A:List Int)(m:Nat)(h:A.length=m):DO [E,o1,o2,N,o4,o5,o6,⟨t_,1,A.map nI,f_⟩] (.row 7 m 0 m)=s_ (EK A):=by
 have h1:I6 [E,o1,o2,N,o4,o5,o6,⟨t_,1,A.map nI,f_⟩] 7 m 0 m=s_ (1,A.map nI):=by
  simp only[I6,By,Ay];grind
 simp only[DO,h1,Ae];rfl
theorem sO(s:Sta)(n:Int):DV (s_ (zzB (El s))) 1 1 (I J n)=s_ (zzB (El {s with fuel:=n})):=(rfl)
theorem YF0(s:Sta)(n:Int):DV (s_ (zzB (El s))) 1 2 (I J n)=s_ (zzB (El {s with status:=n})):=(rfl)
theorem MP(a b c d S:D):DV (s_ (zzB [I J 0,I J 0,I J 0,I J 0,O 0 [] t_])) 5 0 (U [a,b,c,d,S])=if [a,b,c,d,S].all yaa then s_ (zzB [a,b,c,d,S])else n_:=zad
theorem MW(lent:Bool)(a b c d S:D):DB (s_ ⟨f_,1,[a,b,c,d,S],lent⟩) 5 t_ 0=s_ (U [a,b,c,d,S]):=(rfl)
def oX:=DL (α:=List Ins×(zIL)×Sta×Int) (λa=>[O (nz 3 (a.1.map Dt)) (a.1.map Dt) f_,EO a.2.1,Eh a.2.2.1,I J a.2.2.2]) (λa=>aOK a.1 a.2.1 a.2.2.1 a.2.2.2) (λa=>Eh (Fx a.2.1 a.2.2.2 a.2.2.1 (a.1.getD a.2.2.1.pc.toNat d_)))
def yXi(c:List Ins)(v:zIL)(s:Sta)(b:Int)(h:aOK c v s b):oX [O (nz 3 (c.map Dt)) (c.map Dt) f_,EO v,Eh s,I J b]=s_ (Eh (Fx v b s (c.getD s.pc.toNat d_))):=
 EL (λ⟨a0,a1,E,N⟩⟨b0,b1,b2,b3⟩h=>by simp only[Ab,D.slc.injEq,D.int.injEq,zal,zag,Lq,T3,KJ]at h;simp[h]) (c,v,s,b) h
theorem cO(c:List Ins)(v:zIL)(s:Sta)(b:Int)(h:aOK c v s b):@wW GG (tb [] [(169,oU)]) nj.1.code (Du [O (nz 3 (c.map Dt)) (c.map Dt) f_,EO v,Eh s,I J b]) [] ⟨DN nj.1.res (Eh (Fx v b s (c.getD s.pc.toNat d_)))⟩:=by
 obtain⟨hv,ah,a0,hl,a1,ba,hc,hf,bb,bc⟩:=h;have a2:s.pc.toNat<c.length:=zaa
 unfold nj
 by_cases h1:s.fuel=0
 .rw[show Fx v b s (c.getD s.pc.toNat d_)={s with status:=220} from zae h1]
  push_cast(disch:=lia)[FY,Jt,JI,Mt,h1,YF0,JG,Mw,LO]
 .rw[show Fx v b s (c.getD s.pc.toNat d_)=Gv (DG s) (GP v b (DG s) (c.getD s.pc.toNat d_))from zaf h1];have hx:=λst=>aZ st c f_ s.pc.toNat a2;rw[show((s.pc.toNat:Nat):Int)=s.pc by omega]at hx
  have af:HR (c.getD s.pc.toNat d_)=t_:=by
   grind
  obtain⟨x,a3⟩:∃x,c.getD s.pc.toNat d_=x:=⟨_,rfl⟩;rw[a3]at hx af⊢;have hx:∀st:St,ER st 3 (O (nz 3 (c.map Dt)) (c.map Dt) f_) (I J (DG s).pc)=s_ (.eptr (Dt x) 0):=hx;have he:eOK v b (DG s) x:=⟨hv,ah,a0,hl,a1,by show s.pc<=100000;omega,af⟩;have E:=Yrz (st:=[zzB (Eo v),zzB (El (DG s)),zzB [I J 0,I J 0,I J 0,I J 0,O 0 [] t_],zzB (Fz v (DG s).pc (DG s).fuel (DG s).status (DG s).clause (EK (DG s).stack) b)]) (key:=3) he rfl;have ac:=Yib v hv (DG s) b;have ad:(⟨s.pc,s.fuel-1,s.status,s.clause,s.stack⟩:Sta)=DG s:=rfl
  cases ho:GP v b (DG s) x with
  |err e=>
   have bd:=Yig ho;rw[ho]at E
   have N:∃l,Mi [zzB (Eo v),zzB (El (DG s)),zzB [I J 0,I J 0,I J 0,I J 0,O 0 [] t_],zzB (Fz v (DG s).pc (DG s).fuel (DG s).status (DG s).clause (EK (DG s).stack) b)] 3 (DG s) x=(zzB (Eo v))::(zzB (El (DG s)))::(zzB [I J 0,I J 0,I J 0,I J 0,O 0 [] t_])::l:=by
    unfold Mi;split<;>exact⟨_,rfl⟩
   obtain⟨l,N⟩:=N;rw[N]at E;simp only[EF,Aj]at E;have a4:¬e=0:=zaa
   push_cast(disch:=lia)[FY,Jt,JI,Mt,h1,FL,sO,ad,HK hv,JG,ac,kR,LQ,hx,Mu,E,a4,D5,YF0,Mw,LO,Gv]
  |pop k push pc=>
   rw[ho]at E;have N:=Yif ho;rw[show Mi [zzB (Eo v),zzB (El (DG s)),zzB [I J 0,I J 0,I J 0,I J 0,O 0 [] t_],zzB (Fz v (DG s).pc (DG s).fuel (DG s).status (DG s).clause (EK (DG s).stack) b)] 3 (DG s) x=_ from zaf N]at E;simp only[EF]at E
   cases push with
   |none=>
    simp only[LW,JM,D6,Aj,Aq,Ai,CH,Bw]at E
    push_cast(disch:=lia)[FY,Jt,JI,Mt,h1,FL,sO,ad,HK hv,JG,ac,kR,LQ,hx,Mu,E,EA,Yzd hv,MP,MW,Gv]
    simp only[Option.toList_none,Ai];rfl
   |some a=>
    have hi:=λo0 o1 o2 o3 o4 o5 o6=>YI9 o0 o1 o2 o3 o4 o5 o6 ((DG s).stack.take ((DG s).stack.length-k)++[a]) ((DG s).stack.length-k+1) (by rw[Ag,AJ];simp);simp only[LW,JM,D6,Aj,Aq,CH,Bw,An,As]at E
    push_cast(disch:=lia)[FY,Jt,JI,Mt,h1,FL,sO,ad,HK hv,JG,ac,kR,LQ,hx,Mu,E,EA,Yzd hv,MP,MW,Gv,hi]
    rfl
  |set p t cl=>
   rw[ho]at E;have N:=YBo ho;rw[show Mi [zzB (Eo v),zzB (El (DG s)),zzB [I J 0,I J 0,I J 0,I J 0,O 0 [] t_],zzB (Fz v (DG s).pc (DG s).fuel (DG s).status (DG s).clause (EK (DG s).stack) b)] 3 (DG s) x=_ from zaf N]at E;simp only[EF,D6,Aj,Aq,CH,Bw]at E
   push_cast(disch:=lia)[FY,Jt,JI,Mt,h1,FL,sO,ad,HK hv,JG,ac,kR,LQ,hx,Mu,E,EA,Yzd hv,MP,MW,ySi,Yhf,Gv]
   rfl
def YLx:zCC 143 oX:=
 EM (T:=tb [] [(169,oU)]) nj.2 (DP all_nil (all_cons YK3 all_nil)) (λa h=>cO a.1 a.2.1 a.2.2.1 a.2.2.2 h)
def Io(c:List Ins)(s:Sta)(b:Int):Prop:=s.pc<0\/(c.length:Int)<=s.pc\/s.fuel<0\/32768<s.fuel\/s.clause≠0\/b<0\/64<b\/64-b<(s.stack.length:Int)
instance (c:List Ins) (s:Sta) (b:Int):Decidable (Io c s b):=by unfold Io;infer_instance
def HN(c:List Ins)(s:Sta)(b:Int):Int:=if s.status≠0 then 211 else if(FQ c).2≠0 then(FQ c).2 else if Io c s b then 1 else 0
def rC:=DL (α:=List Ins×Sta×Int) (λa=>[O (nz 3 (a.1.map Dt)) (a.1.map Dt) f_,Eh a.2.1,I J a.2.2]) (λa=>a.1.length<=4294967296) (λa=>I J (HN a.1 a.2.1 a.2.2))
def yH4(c:List Ins)(s:Sta)(b:Int)(h:c.length<=4294967296):rC [O (nz 3 (c.map Dt)) (c.map Dt) f_,Eh s,I J b]=s_ (I J (HN c s b)):=
 EL (λ⟨a0,a1,E⟩⟨b0,b1,N⟩h=>by simp only[Ab,D.slc.injEq,D.int.injEq,zal,zag,Lq,T3]at h;simp[h]) (c,s,b) h
def Yvg(c:List Ins)(s:Sta)(b:Int)(h:c.length<=4294967296):@wW GG (tb [(54,Sy)] []) mz.1.code (Du [O (nz 3 (c.map Dt)) (c.map Dt) f_,Eh s,I J b]) [] ⟨DN mz.1.res (I J (HN c s b))⟩:=by
 have hv:=Zm c zaa;unfold mz
 by_cases E:s.status=0
 .by_cases N:(FQ c).2=0
  .have e:HN c s b=if Io c s b then 1 else 0:=by unfold HN;rw[zaf (by simp[E]),zaf (by simp[N])]
   rw[e]
   by_cases q1:s.pc<0
   .rw[zae (.inl q1)]
    push_cast(disch:=lia)[Jt,LQ,Kq,E,hv,N,q1]
   by_cases q2:(c.length:Int)<=s.pc
   .rw[zae (.inr (.inl q2))]
    push_cast(disch:=lia)[Jt,LQ,Kq,E,hv,N,q1,q2]
   by_cases q3:s.fuel<0
   .rw[zae (.inr (.inr (.inl q3)))]
    push_cast(disch:=lia)[Jt,LQ,Mt,Kq,E,hv,N,q1,q2,q3]
   by_cases q4:32768<s.fuel
   .rw[zae (.inr (.inr (.inr (.inl q4))))]
    push_cast(disch:=lia)[Jt,LQ,Mt,Kq,E,hv,N,q1,q2,q3,q4]
   by_cases q5:s.clause=0
   .by_cases q6:b<0
    .rw[zae (.inr (.inr (.inr (.inr (.inr (.inl q6))))))]
     push_cast(disch:=lia)[Jt,LQ,Mt,Kq,P8,E,hv,N,q1,q2,q3,q4,q5,q6]
    by_cases q7:64<b
    .rw[zae (.inr (.inr (.inr (.inr (.inr (.inr (.inl q7)))))))]
     push_cast(disch:=lia)[Jt,LQ,Mt,Kq,P8,E,hv,N,q1,q2,q3,q4,q5,q6,q7]
    by_cases q8:64-b<(s.stack.length:Int)
    .rw[zae (.inr (.inr (.inr (.inr (.inr (.inr (.inr q8)))))))]
     push_cast(disch:=lia)[Jt,LQ,Mt,Kq,P8,QY,HT,FL,E,hv,N,q1,q2,q3,q4,q5,q6,q7,q8]
    .rw[zaf (by unfold Io;omega)]
     push_cast(disch:=lia)[Jt,LQ,Mt,Kq,P8,QY,HT,FL,E,hv,N,q1,q2,q3,q4,q5,q6,q7,q8]
   .rw[zae (.inr (.inr (.inr (.inr (.inl q5)))))]
    push_cast(disch:=lia)[Jt,LQ,Mt,Kq,P8,E,hv,N,q1,q2,q3,q4,q5]
  .rw[show HN c s b=(FQ c).2 by unfold HN;rw[zaf (by simp[E]),zae N]]
   push_cast(disch:=lia)[Jt,Kq,E,hv,N]
 .rw[show HN c s b=211 from zae E]
  push_cast(disch:=lia)[Jt,Kq,E]
def Yj8:zCC 142 rC:=
 EM mz.2 (DP (all_cons aB all_nil) all_nil) (λa h=>Yvg a.1 a.2.1 a.2.2 h)
variable{c:List Ins}
theorem OV(h:(FQ c).2=0):c.length<=4096/\0<c.length/\c.all HR=t_/\∃s,G3 c.length c 0 (HD c.length) 0=s_ s/\s<=64:=by
 unfold FQ at h
 split at h
 .simp at h
 split at h
 .simp at h
 rename_i N E;have h3:¬c.length=0:=λe=>E (.inl e)
 have h4:c.all HR=t_:=by
  grind
 cases hv:G3 c.length c 0 (HD c.length) 0 with
 |none=>rw[hv]at h;simp[NB]at h
 |some s=>
  rw[hv]at h;simp only[NB]at h;grind
def yU5(hv:Et v)(h:HN c s b=0):aOK c v s b/\s.status=0/\s.clause=0/\(FQ c).2=0:=by
 unfold HN at h
 split at h
 .simp at h
 split at h
 .omega
 split at h
 .simp at h
 rename_i h1 h2 h3;have N:s.status=0:=zaa
 have E:(FQ c).2=0:=zaa
 obtain⟨a1,a2,a3,_⟩:=OV E;unfold Io at h3;exact⟨⟨hv,zaa,zaa,zaa,zaa,zaa,zaa,a3,zaa,zaa⟩,N,zaa,E⟩
def GH:Sta:=⟨0,0,0,0,[]⟩
def Hd(f:Int):Sta:=if f<0\/32768<f then GH else {GH with fuel:=f}
def Si(f:Int):Int:=if f<0\/32768<f then 1 else 0
theorem aW:Ec [I J 0,I J 0,I J 0,I J 0,O 0 [] t_] []=s_ [I J 0,I J 0,I J 0,I J 0,O 0 [] t_]:=(rfl)
theorem YBb(f:Int):Ec [I J 0,I J 0,I J 0,I J 0,O 0 [] t_] [(1,1,I J f)]=s_ [I J 0,I J f,I J 0,I J 0,O 0 [] t_]:=(rfl)
def rE:=DL (α:=Int) (λa=>[I J a]) (λa=>True) (λa=>.tup [Eh (Hd a),I J (Si a)])
def yH2(f:Int):rE [I J f]=s_ (.tup [Eh (Hd f),I J (Si f)]):=
 EL (λa b h=>by simp only[Ab,D.int.injEq,zal,zag]at h;simp[h]) (f) trivial
def Yvf(f:Int):@wW GG (tb [] []) mv.1.code (Du [I J f]) [] ⟨DN mv.1.res (.tup [Eh (Hd f),I J (Si f)])⟩:=by
 unfold mv
 by_cases E:f<0
 .rw[show Hd f=GH from zae (.inl E),show Si f=1 from zae (.inl E)]
  push_cast(disch:=lia)[JI,E,aW,MP,MW]
  rfl
 .by_cases N:32768<f
  .rw[show Hd f=GH from zae (.inr N),show Si f=1 from zae (.inr N)]
   push_cast(disch:=lia)[JI,E,N,aW,MP,MW]
   rfl
  .rw[show Hd f={GH with fuel:=f} from YYN,show Si f=0 from YYN]
   push_cast(disch:=lia)[JI,E,N,YBb,MP,MW]
   rfl
def Yj6:zCC 104 rE:=
 EM mv.2 (DP all_nil all_nil) (λa h=>Yvf a)
def HU(c:List Ins)(s:Sta):Ins:=c.getD s.pc.toNat d_
def KF(c:List Ins)(v:zIL)(s:Sta):Sta:=if HN c s 0=0 then Fx v 0 s (HU c s)else GH
def vN:=DL (α:=List Ins×(zIL)×Sta) (λa=>[O (nz 3 (a.1.map Dt)) (a.1.map Dt) f_,EO a.2.1,Eh a.2.2]) (λa=>a.1.length<=4294967296/\Et a.2.1) (λa=>.tup [Eh (KF a.1 a.2.1 a.2.2),I J (HN a.1 a.2.2 0)])
def Yjq(c:List Ins)(v:zIL)(s:Sta)(h:c.length<=4294967296/\Et v):vN [O (nz 3 (c.map Dt)) (c.map Dt) f_,EO v,Eh s]=s_ (.tup [Eh (KF c v s),I J (HN c s 0)]):=
 EL (λ⟨a0,a1,E⟩⟨b0,b1,N⟩h=>by simp only[Ab,D.slc.injEq,zag,Lq,T3,KJ]at h;simp[h]) (c,v,s) h
def YEg(c:List Ins)(v:zIL)(s:Sta)(h:c.length<=4294967296/\Et v):@wW GG (tb [(142,rC),(143,oX)] []) lL.1.code (Du [O (nz 3 (c.map Dt)) (c.map Dt) f_,EO v,Eh s]) [] ⟨DN lL.1.res (.tup [Eh (KF c v s),I J (HN c s 0)])⟩:=by
 obtain⟨hc,hv⟩:=h;have N:=yH4 c s 0 hc;unfold lL
 by_cases E:HN c s 0=0
 .have ha:=yXi c v s 0 (yU5 hv E).1;rw[show KF c v s=Fx v 0 s (HU c s)from zae E];rw[E]at N⊢
  push_cast(disch:=lia)[FY,Jt,JI,HK hv,Gc,G2,JG,LO,Qc,N,ha,Mw]
  rfl
 .rw[show KF c v s=GH from zaf E]
  push_cast(disch:=lia)[FY,Jt,JI,JG,LO,N,E,aW,MP,MW]
  rfl
def YLn:zCC 105 vN:=
 EM lL.2 (DP (all_cons Yj8 (all_cons YLx all_nil)) all_nil) (λa h=>YEg a.1 a.2.1 a.2.2 h)
def Ga(o:Opn):Sta:=⟨o.pc,o.fuel,o.status,o.clause,o.top⟩
def QF:Opn:=⟨0,0,0,0,[],0,DX⟩
def Th(c:List Ins)(o:Opn):Prop:=0<o.fuel/\0<o.depth/\(o.top.length:Int)<GQ (HU c (Ga o)).op
instance (c:List Ins) (o:Opn):Decidable (Th c o):=by unfold Th;infer_instance
def LZ(s:Sta)(o:Opn):Opn:=⟨s.pc,s.fuel,s.status,s.clause,s.stack,o.depth,o.rest⟩
def MI(c:List Ins)(o:Opn):Int:=if HN c (Ga o) o.depth=0 then(if Th c o then 390 else 0)else HN c (Ga o) o.depth
def Nb(c:List Ins)(v:zIL)(o:Opn):Opn:=if MI c o=0 then LZ (Fx v o.depth (Ga o) (HU c (Ga o))) o else QF
theorem aV(cs:List D):Ec cs []=s_ cs:=(rfl)
theorem aX(o:Opn):Ec [I J 0,I J 0,I J 0,I J 0,O 0 [] t_] [(0,1,I J o.pc),(1,1,I J o.fuel),(2,1,I J o.status),(3,1,I J o.clause),(4,1,EK o.top)]=s_ (El (Ga o)):=(rfl)
theorem aR(s:Sta):D.agg (El s)=Eh s:=(rfl)
theorem Yh7(x:Ins)(st:St):FE st 0 (.eptr (Dt x) 0)=s_ (.eptr (Dt x) 0):=(rfl)
theorem yU7(st:St)(x:Ins):Fa st 1 f_ (.eptr (Dt x) 0)=s_ (I J x.op):=(rfl)
def wB(s:Sta)(o:Opn):Ec (Fo 0 0 0 0 (O 0 [] t_) 0 DX) [(0,1,I J s.pc),(1,1,I J s.fuel),(2,1,I J s.status),(3,1,I J s.clause),(4,1,EK s.stack),(5,1,I J o.depth),(6,32,Ds o.rest)]=s_ (FF (LZ s o)):=yWy ..
def Yc9(a b c d:Int)(t:D)(k:Int)(r:Dig)(o:Opn):DV (s_ (zzB (Fo a b c d t k r))) 38 0 (U (FF o))=s_ (zzB (FF o)):=aO ..
def Ygj(lent:Bool)(o:Opn):DB (s_ ⟨f_,1,FF o,lent⟩) 38 t_ 0=s_ (Ew o):=Xt ..
def xI:=DL (α:=List Ins×(zIL)×Opn) (λa=>[O (nz 3 (a.1.map Dt)) (a.1.map Dt) f_,EO a.2.1,Ew a.2.2]) (λa=>a.1.length<=4294967296/\Et a.2.1) (λa=>.tup [Ew (Nb a.1 a.2.1 a.2.2),I J (MI a.1 a.2.2)])
def Ybu(c:List Ins)(v:zIL)(o:Opn)(h:c.length<=4294967296/\Et v):xI [O (nz 3 (c.map Dt)) (c.map Dt) f_,EO v,Ew o]=s_ (.tup [Ew (Nb c v o),I J (MI c o)]):=
 EL (λ⟨a0,a1,E⟩⟨b0,b1,N⟩h=>by simp only[Ab,D.slc.injEq,zag,Lq,TY,KJ]at h;simp[h]) (c,v,o) h
def Yvd(c:List Ins)(v:zIL)(o:Opn)(h:c.length<=4294967296/\Et v):@wW GG (tb [(142,rC),(152,rB),(143,oX)] []) nC.1.code (Du [O (nz 3 (c.map Dt)) (c.map Dt) f_,EO v,Ew o]) [] ⟨DN nC.1.res (.tup [Ew (Nb c v o),I J (MI c o)])⟩:=by
 obtain⟨hc,hv⟩:=h;have hr:=yH4 c (Ga o) o.depth hc;unfold nC;have l0:=Yt1 f_ o.pc o.fuel o.status o.clause (EK o.top) o.depth o.rest;have l1:=Yt0 f_ o.pc o.fuel o.status o.clause (EK o.top) o.depth o.rest;have l2:=Ygl f_ o.pc o.fuel o.status o.clause (EK o.top) o.depth o.rest;have l3:=Ytz f_ o.pc o.fuel o.status o.clause (EK o.top) o.depth o.rest;have l4:=Ygk f_ o.pc o.fuel o.status o.clause (EK o.top) o.depth o.rest;have l5:=aG f_ o.pc o.fuel o.status o.clause (EK o.top) o.depth o.rest;have l6:=Yty f_ o.pc o.fuel o.status o.clause (EK o.top) o.depth o.rest;rw[<-LM]at l0 l1 l2 l3 l4 l5 l6
 by_cases N:HN c (Ga o) o.depth=0
 .obtain⟨ha,hs,a5,a6⟩:=yU5 hv N;have a4:o.pc.toNat<c.length:=by have:=ha.p0;have:=ha.p1;simp only[Ga]at *;omega
  have hx:=λst=>aZ st c f_ o.pc.toNat a4;rw[show((o.pc.toNat:Nat):Int)=o.pc by have:=ha.p0;simp only[Ga]at *;omega]at hx;have hx:∀st:St,ER st 3 (O (nz 3 (c.map Dt)) (c.map Dt) f_) (I J o.pc)=s_ (.eptr (Dt (HU c (Ga o))) 0):=hx;have hn:=yH5 (HU c (Ga o)).op;rw[N]at hr
  by_cases h2:Th c o
  .have e:MI c o=390:=by unfold MI;rw[zae N,zae h2]
   rw[show Nb c v o=QF from zaf (by rw[e];decide),e];obtain⟨q1,q2,q3⟩:=h2
   push_cast(disch:=lia)[FY,P3,TO,LN,JI,l0,l1,l2,l3,l4,l5,aX,aR,Mw,JG,LO,hr,q1,q2,HT,hx,Yh7,yU7,hn,q3,aV,aO,Xt,oC]
   rfl
  .have e:MI c o=0:=by unfold MI;rw[zae N,zaf h2]
   rw[show Nb c v o=LZ (Fx v o.depth (Ga o) (HU c (Ga o))) o from zae e,e];have E:=yXi c v (Ga o) o.depth ha;rw[show c.getD (Ga o).pc.toNat d_=HU c (Ga o)from rfl]at E;generalize Fx v o.depth (Ga o) (HU c (Ga o))=s at*
   by_cases q1:0<o.fuel
   .by_cases q2:0<o.depth
    .have q3:¬(o.top.length:Int)<GQ (HU c (Ga o)).op:=λq=>h2 ⟨q1,q2,q⟩
     push_cast(disch:=lia)[FY,P3,TO,LN,JI,l0,l1,l2,l3,l4,l5,l6,aX,aR,Mw,JG,LO,Qc,hr,q1,q2,HT,hx,Yh7,yU7,hn,q3,HK hv,Gc,G2,E,pB,LQ,Mt,Kq,P8,QY,wB,Yc9,Ygj,Lo]
    .push_cast(disch:=lia)[FY,P3,TO,LN,JI,l0,l1,l2,l3,l4,l5,l6,aX,aR,Mw,JG,LO,Qc,hr,q1,q2,HK hv,Gc,G2,E,pB,LQ,Mt,Kq,P8,QY,wB,Yc9,Ygj,Lo]
   .push_cast(disch:=lia)[FY,P3,TO,LN,JI,l0,l1,l2,l3,l4,l5,l6,aX,aR,Mw,JG,LO,Qc,hr,q1,HK hv,Gc,G2,E,pB,LQ,Mt,Kq,P8,QY,wB,Yc9,Ygj,Lo]
 .have e:MI c o=HN c (Ga o) o.depth:=zaf N;rw[show Nb c v o=QF from zaf (by rw[e];exact N),e]
  push_cast(disch:=lia)[FY,P3,TO,LN,JI,l0,l1,l2,l3,l4,l5,aX,aR,Mw,JG,LO,hr,N,aV,aO,Xt,oC]
  rfl
def YCi:zCC 114 xI:=
 EM nC.2 (DP (all_cons Yj8 (all_cons Yj9 (all_cons YLx all_nil))) all_nil) (λa h=>Yvd a.1 a.2.1 a.2.2 h)
def Er(s:Sta):Int×Int×Int:=if s.status=1/\0<s.stack.length then(Dw s 0,s.clause,0)else if 10<s.status then(0,0,s.status-10)else(0,0,1)
def yQ:=DL (α:=Sta) (λa=>[Eh a]) (λa=>a.stack.length<=4294967296/\a.status<=1000000) (λa=>.tup [I J (Er a).1,I J (Er a).2.1,I J (Er a).2.2])
def yFg(s:Sta)(h:s.stack.length<=4294967296/\s.status<=1000000):yQ [Eh s]=s_ (.tup [I J (Er s).1,I J (Er s).2.1,I J (Er s).2.2]):=
 EL (λa b h=>by simp only[Ab,zag,T3]at h;simp[h]) (s) h
def Ylo(s:Sta)(h:s.stack.length<=4294967296/\s.status<=1000000):@wW GG (tb [] []) mL.1.code (Du [Eh s]) [] ⟨DN mL.1.res (.tup [I J (Er s).1,I J (Er s).2.1,I J (Er s).2.2])⟩:=by
 obtain⟨hl,ab⟩:=h;unfold mL
 by_cases N:s.status=1
 .by_cases E:0<s.stack.length
  .rw[show Er s=(Dw s 0,s.clause,0)from zae ⟨N,E⟩]
   have hx:ER [zzB (El s)] 1 (EK s.stack) (I J ((s.stack.length:Int)-1))=s_ (.eptr (nI (Dw s 0)) 0):=by
    have:=oB [zzB (El s)] s.stack f_ (s.stack.length-1) zaa;rw[show((s.stack.length-1:Nat):Int)=(s.stack.length:Int)-1 by omega]at this;exact this
   push_cast(disch:=lia)[Jt,Kq,P8,QY,N,HT,show((0:Int)<(s.stack.length:Int)) by omega,FL,hx,pq]
  .rw[show Er s=(0,0,1) by unfold Er;rw[YYN,YYN]]
   push_cast(disch:=lia)[Jt,Kq,QY,N,HT,show ¬((0:Int)<(s.stack.length:Int)) by omega]
 .by_cases E:10<s.status
  .rw[show Er s=(0,0,s.status-10) by unfold Er;rw[YYN,zae E]]
   push_cast(disch:=lia)[Jt,Kq,N,E,FL]
  .rw[show Er s=(0,0,1) by unfold Er;rw[YYN,zaf E]]
   push_cast(disch:=lia)[Jt,Kq,N,E]
def Yr1:zCC 57 yQ:=
 EM mL.2 (DP all_nil all_nil) (λa h=>Ylo a h)
def D9(c:List Ins):D:=O (nz 3 (c.map Dt)) (c.map Dt) f_
def bj{a b:List Ins}:D9 a=D9 b↔a=b:=by refine⟨λh=>?_,λh=>by rw[h]⟩;simp only[D9,D.slc.injEq,zag]at h;exact(List.map_inj_right (λx y h=>TU.1 h)).1 h.2
def RunOK(c:List Ins)(v:zIL):List Sta->Prop
 |[]=>False
 |[s]=>s.status≠0
 |s::s'::l=>s.status=0/\HN c s 0=0/\s'=KF c v s/\RunOK c v (s'::l)
theorem RunOK.det:∀{s:Sta}{l l':List Sta},RunOK c v (s::l)->RunOK c v (s::l')->l=l'
 |s,[],[],_,_=>rfl
 |s,[],_::_,h,E=>absurd E.1 h
 |s,_::_,[],h,E=>absurd h.1 E
 |s,a::l,b::l',h,E=>by
  obtain⟨_,_,rfl,N⟩:=h;obtain⟨_,_,rfl,h6⟩:=E;rw[RunOK.det N h6]
def Iv(s:Sta):PI.Obj:=(zzB (El s))
inductive RunY (y:zsF) (k kc kv:Nat):List Sta->Nat->St->St->Prop
 |stop {s:Sta}{l:List Sta}{i:Nat}{st st1:St} (h:y [.int .i64 (i:Int),Eh s] st=s_ (.bool f_,st1)):RunY y k kc kv (s::l) i st st1
 |last {s:Sta}{i:Nat}{st st1:St} (h:y [.int .i64 (i:Int),Eh s] st=s_ (.bool t_,st1)) (hk:st1[k]?=s_ (Iv s)):RunY y k kc kv [s] i st st1
 |next {s s':Sta}{l:List Sta}{i:Nat}{st st1 st2:St} (h:y [.int .i64 (i:Int),Eh s] st=s_ (.bool t_,st1)) (hk:st1[k]?=s_ (Iv s)) (hc:st1[kc]?=st[kc]?) (hv:st1[kv]?=st[kv]?)
   (hl:RunY y k kc kv (s'::l) (i+1) (st1.set k (Iv s')) st2):RunY y k kc kv (s::s'::l) i st st2
variable{st:St}{y:zsF}
theorem RunY.det{kc kv:Nat}{l:List Sta}{i:Nat}{a b:St}(h:RunY y k kc kv l i st a):RunY y k kc kv l i st b->a=b:=by
 induction h with
 |stop h=>
  intro N
  cases N with
  |stop E=>rw[h]at E;simp at E;exact E
  |last E=>rw[h]at E;simp at E
  |next E=>rw[h]at E;simp at E
 |last h hk=>
  intro N
  cases N with
  |stop E=>rw[h]at E;simp at E
  |last E=>rw[h]at E;simp at E;exact E
 |next h hk hc hv hl ih=>
  intro N
  cases N with
  |stop E=>rw[h]at E;simp at E
  |next E ac ad ae af=>
   grind
def StatesR(y:zsF)(ds:List D)(st:St)(r:D×St):Prop:=
 ∃(kc kv:Nat)(c:List Ins)(v:zIL)(l:List Sta)(lc lv:Bool),ds=[Y kc 0,Y kv 0]/\st[kc]?=s_ ⟨f_,1,[D9 c],lc⟩/\st[kv]?=s_ ⟨f_,1,Eo v,lv⟩/\c.length<=4096/\Et v/\l.length<=100000/\
  RunOK c v (Hd (c.length+1)::l)/\r.1=.tup []/\RunY y st.length kc kv (Hd (c.length+1)::l) 0 (st++[Iv (Hd (c.length+1))]) r.2
variable{r:D×St}{ds:List D}
theorem StatesR.det{s:D×St}(h:StatesR y ds st r)(h':StatesR y ds st s):r=s:=by obtain⟨kc,kv,c,v,l,lc,lv,rfl,h1,h2,_,_,_,h3,h4,h5⟩:=h;obtain⟨a3,a4,c',v',l',a5,a6,h6,E,N,_,_,_,h9,aa,ab⟩:=h';cases h6;rw[h1]at E;simp only[Dv,Obj.mk.injEq,Ab,zag,zal,bj]at E;rw[h2]at N;simp only[Dv,Obj.mk.injEq,zal]at N;obtain⟨rfl,rfl⟩:=E;obtain rfl:v=v':=KJ.1 (congrArg D.agg N.1);obtain rfl:=h3.det h9;exact Prod.ext (h4.trans aa.symm) (h5.det ab)
def U3(y:zsF)(ds:List D)(st:St):Option (D×St):=@dite _ (∃r,StatesR y ds st r) (Classical.propDecidable _) (λh=>s_ h.choose) (λ_=>n_)
theorem YFf(h:U3 y ds st=s_ r):StatesR y ds st r:=by
 unfold U3 at h
 split at h
 .grind
 .cases h
def wa(h:StatesR y ds st r):U3 y ds st=s_ r:=by have E:∃r,StatesR y ds st r:=⟨r,h⟩;unfold U3;rw[zbf E,E.choose_spec.det h]
def yLr{P:Program}{G:Dy}{T:Tbl}{il:List Nat}{f:Nat}{hints:List (List Nat)}{F:PF}(E:TblOK P G T)(N:IY P il f hints=s_ F){sp:(zsF)->zsF}
  (h:∀(l:Nat)y ds st r,sp y ds st=s_ r->@wW G (Tp T l y) F.code (Du (.clo (10000000+l) []::ds)) st ⟨@Hx F.res ⟨λd st'=>(d,st')=r⟩⟩):Zs P G f sp:=by refine Yqu E N λl y ds st r hr=>?_;obtain⟨fuel,d,st',h1,h2⟩:=la (Gr (h l y ds st r hr));exact⟨fuel,by rw[h1 fuel (Au _)];exact congrArg s_ h2⟩
def YDp{k':Nat}{o:PI.Obj}(h:k'≠k):(st.set k o)[k']?=st[k']?:=Ac zaa
def rS{o o':PI.Obj}(h:st[k]?=s_ o):(st.set k o')[k]?=s_ o':=Ap (Aa.1 h).1
theorem Yuf:Zs Tryz.prog GG 103 U3:=by
 refine yLr (T:=tb [(104,rE),(105,vN)] []) (DP (all_cons Yj6 (all_cons YLn all_nil)) all_nil) ypv.2 ?_;intro lb y ds st r hr;obtain⟨E,kv,c,v,l,lc,lv,rfl,h1,h2,hc,hv,b3,h3,af,h5⟩:=YFf hr;obtain⟨rd,ah⟩:=r;dsimp only at af h5;subst af;have a8:E<st.length:=(Aa.1 h1).1;have a9:kv<st.length:=(Aa.1 h2).1;have cs:=yH2 ((c.length:Int)+1);have e0:Si ((c.length:Int)+1)=0:=zaf zaa;rw[e0]at cs;have ba:st[E]?=s_ ⟨f_,1,[O (nz 3 (c.map Dt)) (c.map Dt) f_],lc⟩:=h1;unfold ypv
 push_cast(disch:=lia)[ba,D5,cs,JI,F3,bw,Mw]
 refine NP (λi:Nat×List Sta×St=>[(0,.clo (10000000+lb) []),(1,Y E 0),(2,Y kv 0),(4,Y st.length 0),(5,I J 0),(6,I J (i.1:Int))]) (λi=>i.2.2)
  (λi=>RunOK c v i.2.1/\RunY y st.length E kv i.2.1 i.1 i.2.2 ah/\i.2.2[E]?=s_ ⟨f_,1,[D9 c],lc⟩/\i.2.2[kv]?=s_ ⟨f_,1,Eo v,lv⟩/\i.2.2[st.length]?=(i.2.1.head?).map Iv/\i.1+i.2.1.length<=100001) (λi=>i.2.1.length)
  (0,Hd (c.length+1)::l,st++[Iv (Hd (c.length+1))]) (by push_cast<;>rfl) ⟨h3,h5,by rw[Ju a8];exact h1,by rw[Ju a9];exact h2,F3 _ _,by simp;omega⟩ ?_
 rintro⟨i,ls,s0⟩ ⟨N,q2,q3,q4,q5,q6⟩;dsimp only at N q2 q3 q4 q5 q6
 match ls,N,q2,q5,q6 with
 |[],N,_,_,_=>exact N.elim
 |s::l,N,q2,q5,q6=>
 have ab:s0[st.length]?=s_ (zzB (El s)):=q5;have b4:s0[E]?=s_ ⟨f_,1,[O (nz 3 (c.map Dt)) (c.map Dt) f_],lc⟩:=q3
 cases q2 with
 |stop h=>
  push_cast(disch:=lia)[ab,JG,h]
 |last h hk=>
  rename_i s1;have hk:ah[st.length]?=s_ (zzB (El s)):=hk;have ac:¬s.status=0:=N
  push_cast(disch:=lia)[ab,JG,h,hk,Kq,ac]
 |next h hk bc bd hl=>
  rename_i s' l' s1;have be:s1[st.length]?=s_ (zzB (El s)):=hk;obtain⟨ac,bf,rfl,b5⟩:=N;have a0:=Yjq c v s ⟨zaa,hv⟩;rw[bf]at a0;have a4:s1[E]?=s_ ⟨f_,1,[O (nz 3 (c.map Dt)) (c.map Dt) f_],lc⟩:=bc.trans q3;have a5:s1[kv]?=s_ ⟨f_,1,Eo v,lv⟩:=bd.trans q4
  push_cast(disch:=lia)[ab,JG,h,be,Kq,ac,a4,a5,HK hv,Gc,G2,LO,Qc,a0,pB,D5]
  refine EV (i+1,KF c v s::l',s1.set st.length (Iv (KF c v s))) (by
   grind) zac ?_
  rfl
def XX:zsF:=H2 (α:=(List Ins×(zIL))×St) (λa=>([D9 a.1.1,EO a.1.2],a.2)) (λa=>Et a.1.2) (λa=>(.clo 103 [Y a.2.length 0,Y (a.2.length+1) 0],a.2++[zzB [D9 a.1.1]]++[zzB (Eo a.1.2)]))
theorem yXf(c:List Ins)(v:zIL)(st:St)(hv:Et v):XX [D9 c,EO v] st=s_ (.clo 103 [Y st.length 0,Y (st.length+1) 0],st++[zzB [D9 c]]++[zzB (Eo v)]):=
 OS (λa b e=>by
  obtain⟨⟨a1,E⟩,N⟩:=a;obtain⟨⟨b1,b2⟩,b3⟩:=b;simp only[D4,Ab,zag,bj,KJ]at e;grind) (((c,v),st):(List Ins×(zIL))×St) hv rfl
def Yul:zIC 55 XX:=by
 refine yss (T:=tb [] []) ys0.2 (DP all_nil all_nil) ?_;rintro⟨⟨c,v⟩,st⟩ hv;unfold ys0
 push_cast(disch:=lia)[D9,FY]
 rw[P2]
def Ybj(a b:List Cl):J2 (a++b)=J2 a+J2 b:=by simp[J2]
def QCm(_:List D)(r:D):Prop:=∃d e,r=.tup [d,I J e]/\(e=0->∃c:List Ins,d=D9 c/\(FQ c).2=0)
abbrev TCm:Tbl:=tb [(49,RP),(54,Sy)] [(52,Pz),(53,gX)]
def cJ{t:Tf}(ht:t.ok):@wW GG TCm ZR.1.code (Du [Kv t]) [] ⟨FP ZR.1.res (QCm [Kv t])⟩:=by
 obtain⟨e,he⟩:=YJ5 ht;obtain⟨nm,kd,cls⟩:=t;obtain⟨h1,h2,h3⟩:=ht;dsimp only at h1 h2 h3;have ad:∀st:St,DB (s_ (zzB [.str nm,I J kd,O (nz 9 (cls.map Ea)) (cls.map Ea) f_])) 3 t_ 0=s_ (Kv ⟨nm,kd,cls⟩):=λ_=>rfl;have be:DB (s_ (zzB [.str nm,I J kd,O (nz 9 (cls.map Ea)) (cls.map Ea) f_])) 1 f_ 2=s_ (O (nz 9 (cls.map Ea)) (cls.map Ea) f_):=rfl;have bc:DM (U [O 0 [] t_])=s_ [O 0 [] t_]:=rfl;unfold ZR
 by_cases h0:e=0
 case neg=>
  push_cast(disch:=lia)[Tr,ad [],Sl,he,h0]
  exact⟨_,_,rfl,λh=>absurd h h0⟩
 push_cast(disch:=lia)[Tr,ad [],Sl,he,h0,be,Az,bc]
 generalize cg:(⟨f_,1,[.str nm,I J kd,O (nz 9 (cls.map Ea)) (cls.map Ea) f_],f_⟩:PI.Obj)=bf;have a7:Cp 1 [] [bf,M1 0 []]:=⟨0,rfl,λh=>absurd rfl h⟩
 have bg:∀i,i<=cls.length->3*J2 (cls.take i)+i<=3*J2 cls+cls.length:=λi hi=>by
  have e:J2 cls=J2 (cls.take i)+J2 (cls.drop i):=by
   rw[<-Ybj,Bl]
  omega
 refine NP (λi:Nat×St=>[(4,Y 1 0),(13,O (nz 9 (cls.map Ea)) (cls.map Ea) f_),(14,I J (cls.length:Int)),(15,I J (i.1:Int))]) (λi=>i.2) (λi=>i.1<=cls.length/\∃c,Cp 1 c i.2/\c.length<=3*J2 (cls.take i.1)+i.1) (λi=>cls.length-i.1) (0,_) (by push_cast<;>rfl) ⟨AS _,[],a7,zac⟩ ?_;rintro⟨i,S⟩ ⟨hi,c,hc,hl⟩;dsimp only at hi hc hl;have hb:=bg i hi
 by_cases E:i<cls.length
 .have ac:(i:Int)<cls.length:=zaa
  have ae:∀st:St,ER st 9 (O (nz 9 (cls.map Ea)) (cls.map Ea) f_) (I J (i:Int))=s_ (.eptr (Ea cls[i]) 0):=λst=>by
   have N:nz 9 (cls.map Ea)=9:=by unfold nz;rw[zaf];cases cls<;>simp at E⊢
   have bh:0<=(i:Int):=zaa
   simp[ER,N,FA,bh,E]
  have af:=h1 cls[i] (A6 E);have b4:=p8 (A6 E)
  have b5:J2 (cls.take (i+1))=J2 (cls.take i)+(cls[i].ws.length+cls[i].pay.sz):=by
   rw[List.take_succ_eq_append_getElem E,Yis]
  generalize cls[i]=cl at ae af b4 b5;obtain⟨S1,c1,a1,a2,a3,a4,a5⟩:=iF (i:Int) (hc.app [zzB (IM cl)]) af zaa zaa;have b7:DB (s_ (zzB (IM cl))) 9 t_ 0=s_ (Ea cl):=Is _ _ _ _ (jP cl)
  push_cast(disch:=lia)[ac,ae,U5,PN,UR,GA,MQ,b7,a1,D5]
  refine EV (i+1,S1) (by exact⟨zaa,c1,a3,by show c1.length<=3*J2 (cls.take (i+1))+(i+1);omega⟩) (zaa:cls.length-(i+1)<cls.length-i) ?_;rfl
 .have ac:¬(i:Int)<cls.length:=zaa
  obtain rfl:i=cls.length:=zaa
  obtain⟨S1,c1,b,p,a1,a2,a3,a4,_⟩:=JZ 16 0 0 hc zaa;obtain⟨kr,b1,b2⟩:=a3;have N:c1≠[]:=λh=>by subst h;cases a4
  obtain⟨b2,b3⟩:=b2 N;have ah:DB (s_ (M1 kr c1)) 1 f_ 0=s_ (D0 kr (c1.map Dt)):=rfl
  have a0:D2 S1 (D0 kr (c1.map Dt))=s_ (D9 c1):=by
   have h:=V4 (S:=S1) (kr:=kr) (sz:=3) (els:=c1.map Dt) λ_=>b3
   have e:D0 kr (c1.map Dt)=.row kr c1.length 0 c1.length:=by
    unfold D0;rw[zaf (by simpa using N),Az]
   rw[e]at h⊢;exact h
  have a9:keys (D0 kr (c1.map Dt))=[kr]:=by
   unfold D0;rw[zaf (by simpa using N)];rfl
  have ba:Sy [D9 c1]=_:=Zm c1 zaa
  push_cast(disch:=lia)[ac,a1,b1,ah,a0,ba,a9]
  have ca:∀a b:Int,(D.tup [I J a,I J b]).noRef=t_:=λ_ _=>rfl;have cf:DO S1 (D0 kr (c1.map Dt))=s_ (D9 c1):=V4 (S:=S1) (kr:=kr) (sz:=3) (els:=c1.map Dt) λ_=>b3;refine Fm (λhc=>?_) (λhc=>?_)
  .push_cast(disch:=lia)[hc,ca,b1,ah,a0]
   exact⟨_,_,rfl,λ_=>⟨c1,rfl,hc⟩⟩
  .push_cast(disch:=lia)[hc]
   exact⟨_,_,rfl,λh=>absurd h zab⟩
abbrev zK:zsP:=Ii TCm ZR.1 QCm
def g_cm{t:Tf}(E:t.ok):∃d e,zK [Kv t]=s_ (.tup [d,I J e])/\(e=0->∃c:List Ins,d=D9 c/\(FQ c).2=0):=by obtain⟨_,h,d,e,rfl,q⟩:=I2 (cJ E);exact⟨d,e,h,q⟩
def jo:CP 16 zK:=I0 (T:=TCm) _ ZR.2 (DP (all_cons Yuk (all_cons aB all_nil)) (all_cons YLe (all_cons YCf all_nil)))
def Tb(c:List Ins)(out:Int)(i:Nat)(D:Nat->Int):Prop:=
 ∀j,i<=j->j<c.length->0<=D j->¬LJ (c.getD j d_) (D j)/\D j<=out/\GY (c.getD j d_) (D j)<=out/\
  ∀n∈MC (c.getD j d_) j,(j:Int)<n/\n<c.length/\D n.toNat=GY (c.getD j d_) (D j)
variable{dep:List Int}
theorem YMd{j:Nat}{x:Int}(h:j≠k):Ez (dep.set k x) j=Ez dep j:=by grind
theorem YC8{x:Int}(h:k<dep.length):Ez (dep.set k x) k=x:=by grind
theorem yVn{len i after:Int}(N:0<=after)(hi:0<=i):∀{l:List Int}{dep E:List Int},(dep.length:Int)=len->O9 len i after l dep=s_ E->
  E.length=dep.length/\(∀j:Nat,0<=Ez dep j\/(j:Int)<=i->Ez E j=Ez dep j)/\∀n∈l,i<n/\n<len/\Ez E n.toNat=after
 |[],dep,E,hl,h=>by
  simp only[O9,Dv]at h;grind
 |n::l,dep,E,hl,h=>by
  simp only[O9]at h
  split at h
  .cases h
  rename_i hb;unfold We at hb;have aa:i<n/\n<len:=⟨zaa,zaa⟩;have ab:n.toNat<dep.length:=zaa
  obtain⟨h1,h2,h3⟩:=yVn N hi (dep:=dep.set n.toNat after) (by rw[BE];exact hl) h;grind
def Ybe(op:Int):0<=(EP op).2:=by
 unfold EP
 repeat' split
 all_goals simp
theorem we(c:List Ins):∀(r:List Ins)(i:Nat)(dep:List Int)(s out:Int),r=c.drop i->i<=c.length->dep.length=c.length->0<=s->G3 c.length r i dep s=s_ out->
  s<=out/\∃D:Nat->Int,(∀j:Nat,0<=Ez dep j\/j<i->D j=Ez dep j)/\Tb c out i D
 |[],i,dep,s,out,E,hi,hl,hs,h=>by
  simp only[G3,Dv]at h;subst h;have:c.length<=i:=List.drop_eq_nil_iff.1 E.symm;exact⟨CA _,Ez dep,λ_ _=>rfl,λj h1 h2=>absurd h2 zaa⟩
 |x::r,i,dep,s,out,E,hi,hl,hs,h=>by
  have N:i<c.length:=by
   grind
  rw[BG N]at E;obtain⟨hx,E⟩:=List.cons.inj E;have hg:c.getD i d_=x:=by rw[hx,Am,Ah N];rfl
  simp only[G3]at h
  split at h
  .rename_i ad;obtain⟨h1,D,h2,h3⟩:=we c r (i+1) dep s out E N hl hs h;refine⟨h1,D,λj hj=>h2 j zaa,λj hj aa hD=>?_⟩
   by_cases e:j=i
   .grind
   .exact h3 j zaa aa hD
  .rename_i ad
   split at h
   .cases h
   rename_i ah
   split at h
   .cases h
   rename_i a0 hn;have a3:(EP x.op).1<=Ez dep i:=by unfold LJ at ah;omega
   have ha:0<=GY x (Ez dep i):=by have:=Ybe x.op;unfold GY;omega
   obtain⟨n1,n2,n3⟩:=yVn ha zaa (by rw[hl]) hn;obtain⟨h1,D,h2,h3⟩:=we c r (i+1) a0 _ out E N (by rw[n1,hl]) zaa h;refine⟨zaa,D,λj hj=>?_,λj hj aa hD=>?_⟩
   .grind
   .by_cases e:j=i
    .grind
    .exact h3 j zaa aa hD
theorem yX8(h:(FQ c).2=0):∃D:Nat->Int,D 0=0/\Tb c 64 0 D:=by obtain⟨h1,h2,h3,s,N,h5⟩:=OV h;obtain⟨_,D,h6,h7⟩:=we c c 0 (HD c.length) 0 s rfl zaa (by simp[HD]) zab N;have E:Ez (HD c.length) 0=0:=YC8 (by simp;omega);refine⟨D,by rw[h6 0 (.inl (by rw[E];decide)),E],λj a b d=>?_⟩;obtain⟨q1,q2,q3,q4⟩:=h7 j a b d;grind
structure Good (c:List Ins) (D:Nat->Int) (s:Sta):Prop where
 st:s.status=0
 cl:s.clause=0
 p0:0<=s.pc
 p1:s.pc<c.length
 d:D s.pc.toNat=s.stack.length
 u0:0<=s.fuel
 u1:s.fuel<=32768
structure Last (s:Sta):Prop where
 st:s.status≠0
 s0:0<=s.status
 s1:s.status<=100000
 l:s.stack.length<=64
theorem Good.len{D:Nat->Int}(E:Tb c 64 0 D)(h:Good c D s):s.stack.length<=64:=by have N:=h.d;have h2:=h.p0;have h3:=h.p1;have:=(E s.pc.toNat zaa zaa zaa).2.1;omega
theorem Good.ready{D:Nat->Int}(hv:(FQ c).2=0)(E:Tb c 64 0 D)(h:Good c D s):HN c s 0=0:=by unfold HN;have hl:=h.len E;have N:=h.st;have h2:=h.p0;have h3:=h.p1;have h4:=h.u0;have h5:=h.u1;have h6:=h.cl;rw[YYN,YYN,zaf (by unfold Io;omega)]
theorem xV(h:c.all HR=t_){j:Nat}(hj:j<c.length):HR (c.getD j d_)=t_:=by grind
def yHl(h:HR x=t_):1<=x.op/\x.op<=16:=⟨(zat h).1,(zat h).2.1⟩
def Yo0{op:Int}(h:1<=op/\op<=16):GQ op=(EP op).1:=by
 have:op=1\/op=2\/op=3\/op=4\/op=5\/op=6\/op=7\/op=8\/op=9\/op=10\/op=11\/op=12\/op=13\/op=14\/op=15\/op=16:=zaa
 rcases this with rfl|rfl|rfl|rfl|rfl|rfl|rfl|rfl|rfl|rfl|rfl|rfl|rfl|rfl|rfl|rfl<;>rfl
theorem Good.step{D:Nat->Int}(hf:c.all HR=t_)(hD:Tb c 64 0 D)(h:Good c D s):
  Last (Fx v 0 s (HU c s))\/(Good c D (Fx v 0 s (HU c s))/\s.pc<(Fx v 0 s (HU c s)).pc/\(Fx v 0 s (HU c s)).fuel=s.fuel-1):=by
 have hl:=h.len hD;obtain⟨h1,h2,h3,h4,h5,h6,h7⟩:=h;have hj:s.pc.toNat<c.length:=zaa
 have a1:HR (HU c s)=t_:=xV hf hj;have a2:=yHl a1;obtain⟨q1,q2,q3,q4⟩:=hD s.pc.toNat zaa hj zaa;rw[show c.getD s.pc.toNat d_=HU c s from rfl]at q1 q3 q4;generalize HU c s=x at*;rw[h5]at q1 q3 q4;have a9:=Yo0 a2;unfold Fx
 by_cases hu:s.fuel=0
 .rw[zae hu];exact .inl ⟨zac,zac,zac,hl⟩
 rw[zaf hu]
 have a5:¬((DG s).stack.length:Int)<GQ x.op:=by
  unfold LJ at q1
  show ¬((s.stack.length:Int)<GQ x.op)
  omega
 have hex:GP v 0 (DG s) x=Ee v 0 (DG s) x:=zaf a5
 have nx:∀(n:Int),n∈MC x s.pc.toNat->s.pc<n/\n<c.length/\D n.toNat=GY x s.stack.length:=λn hn=>by
  grind
 have N:x.op≠14->x.op≠15->x.op≠16->s.pc<s.pc+1/\s.pc+1<c.length/\D (s.pc+1).toNat=GY x s.stack.length:=λa b d=>by
  refine nx (s.pc+1) ?_;unfold MC;grind
 have a6:x.op=13\/x.op=14->s.pc<x.n/\x.n<c.length/\D x.n.toNat=GY x s.stack.length:=λa=>by
  refine nx x.n ?_;unfold MC;grind
 have bd:∀e,GP v 0 (DG s) x=.err e->Last (Gv (DG s) (GP v 0 (DG s) x)):=λe he=>by
  have:=Yig he;rw[he];exact⟨by simp only[Gv];omega,by simp only[Gv];omega,by simp only[Gv];omega,hl⟩
 have E:∀k push pc,GP v 0 (DG s) x=.pop k push pc->k<=s.stack.length->((s.stack.length-k+push.toList.length:Nat):Int)=GY x s.stack.length->(s.pc<pc.getD (s.pc+1)/\pc.getD (s.pc+1)<c.length/\D (pc.getD (s.pc+1)).toNat=GY x s.stack.length)->
   Good c D (Gv (DG s) (GP v 0 (DG s) x))/\s.pc<(Gv (DG s) (GP v 0 (DG s) x)).pc/\(Gv (DG s) (GP v 0 (DG s) x)).fuel=s.fuel-1:=λk push pc he hk b3 ae=>by
  rw[he];refine⟨⟨h1,h2,?_,ae.2.1,?_,?_,?_⟩,ae.1,rfl⟩
  .show 0<=pc.getD (s.pc+1);omega
  .show D (pc.getD (s.pc+1)).toNat=((s.stack.take (s.stack.length-k)++push.toList).length:Int)
   grind
  .show 0<=s.fuel-1;omega
  .show s.fuel-1<=32768;omega
 have hd:(EP x.op).1<=s.stack.length:=by unfold LJ at q1;omega
 by_cases o1:x.op=1
 .have he:GP v 0 (DG s) x=.pop 0 (s_ x.n) n_:=by
   rw[hex];unfold Ee;rw[zae o1,zaf];have:GY x s.stack.length=s.stack.length+1:=by unfold GY;rw[o1];simp[EP]
   show ¬(64:Int)<=0+s.stack.length
   omega
  refine .inr (E _ _ _ he zaa ?_ (N zaa zaa zaa));unfold GY;rw[o1];simp[EP]
 by_cases o2:x.op=2
 .have be:¬(64:Int)<=0+(DG s).stack.length:=by
   have:GY x s.stack.length=s.stack.length+1:=by unfold GY;rw[o2];simp[EP]
   show ¬(64:Int)<=0+s.stack.length
   omega
  by_cases b1:R8 v.1 (N4 x.n)=0
  .have he:GP v 0 (DG s) x=.err 181:=by
    rw[hex];unfold Ee;grind
   grind
  by_cases b2:Ez v.2 x.n.toNat < -9007199254740992\/9007199254740992<Ez v.2 x.n.toNat
  .have he:GP v 0 (DG s) x=.err 3:=by
    rw[hex];unfold Ee;grind
   grind
  have he:GP v 0 (DG s) x=.pop 0 (s_ (Ez v.2 x.n.toNat)) n_:=by
   rw[hex];unfold Ee;grind
  refine .inr (E _ _ _ he zaa ?_ (N zaa zaa zaa));unfold GY;rw[o2];simp[EP]
 by_cases aa:x.op=12
 .have he:GP v 0 (DG s) x=.pop 1 (s_ (if x.n<=Dw (DG s) 0/\Dw (DG s) 0<=x.m then 1 else 0)) n_:=by
   rw[hex];unfold Ee;grind
  have:(EP x.op).1=1:=by rw[aa];rfl
  refine .inr (E _ _ _ he zaa ?_ (N zaa zaa zaa));unfold GY;rw[aa];simp[EP];omega
 by_cases ab:x.op=13
 .have he:GP v 0 (DG s) x=.pop 1 n_ (if Dw (DG s) 0=0 then s_ x.n else n_):=by
   rw[hex];unfold Ee;grind
  have:(EP x.op).1=1:=by rw[ab];rfl
  refine .inr (E _ _ _ he zaa ?_ ?_)
  .unfold GY;rw[ab];simp[EP];omega
  .grind
 by_cases ac:x.op=14
 .have he:GP v 0 (DG s) x=.set x.n s.status s.clause:=by
   rw[hex];unfold Ee;rw[zaf o1,zaf o2,zaf aa,zaf ab,zae ac];rfl
  obtain⟨m1,m2,m3⟩:=a6 (.inr ac)
  right
  rw[he];refine⟨⟨h1,h2,?_,m2,?_,?_,?_⟩,m1,rfl⟩
  .show 0<=x.n;omega
  .show D x.n.toNat=(s.stack.length:Int)
   rw[m3];unfold GY;rw[ac];simp[EP]
  .show 0<=s.fuel-1;omega
  .show s.fuel-1<=32768;omega
 by_cases a7:x.op=15
 .have he:GP v 0 (DG s) x=.set s.pc 1 x.n:=by
   rw[hex];unfold Ee;rw[zaf o1,zaf o2,zaf aa,zaf ab,zaf ac,zae a7];rfl
  left
  rw[he];exact⟨by simp[Gv],by simp[Gv],by simp[Gv],hl⟩
 by_cases b4:x.op=16
 .have he:GP v 0 (DG s) x=.err 180:=by
   rw[hex];unfold Ee;grind
  grind
 by_cases b1:(Es x.op (Dw (DG s) 1) (Dw (DG s) 0)).2=0
 .have he:GP v 0 (DG s) x=.pop 2 (s_ (Es x.op (Dw (DG s) 1) (Dw (DG s) 0)).1) n_:=by
   rw[hex];unfold Ee;grind
  have e2:EP x.op=(2,1):=by
   unfold EP;grind
  rw[e2]at hd;refine .inr (E _ _ _ he zaa ?_ (N zaa zaa zaa));unfold GY;rw[e2];simp;omega
 .have he:GP v 0 (DG s) x=.err (Es x.op (Dw (DG s) 1) (Dw (DG s) 0)).2:=by
   rw[hex];unfold Ee;grind
  grind
def Kx(c:List Ins)(v:zIL):Nat->Sta->List Sta
 |0,s=>[s]
 |f+1,s=>s::if s.status=0 then Kx c v f (KF c v s)else []
def Ka(c:List Ins)(v:zIL):List Sta:=Kx c v c.length (Hd (c.length+1))
theorem Yd2{c:List Ins}{D:Nat->Int}{v:zIL}(hv:(FQ c).2=0)(N:Tb c 64 0 D):∀(f:Nat)(s:Sta),Good c D s->(c.length:Int)<=f+s.pc->
  ∃l,Kx c v f s=s::l/\RunOK c v (s::l)/\l.length<=f/\(∀x∈s::l,Good c D x\/Last x)
 |0,s,h,hf=>absurd h.p1 (by have:=h.p1;omega)
 |f+1,s,h,hf=>by
  have hr:=h.ready hv N;have E:KF c v s=Fx v 0 s (HU c s):=zae hr;have ab:=(OV hv).2.2.1;refine⟨Kx c v f (KF c v s),by simp only[Kx];rw[zae h.st],?_⟩;rcases h.step (v:=v) ab N with hl|⟨hg,ad,_⟩
  .rw[<-E]at hl
   have e:Kx c v f (KF c v s)=[KF c v s]:=by
    cases f with
    |zero=>rfl
    |succ f=>simp only[Kx];rw[zaf hl.st]
   rw[e];refine⟨⟨h.st,hr,rfl,hl.st⟩,zac,λx hx=>?_⟩;grind
  .rw[<-E]at hg ad;obtain⟨l,h1,h2,h3,h4⟩:=Yd2 (v:=v) hv N f (KF c v s) hg zaa;rw[h1];refine⟨⟨h.st,hr,rfl,h2⟩,by simp;omega,λx hx=>?_⟩;grind
def T5(hv:(FQ c).2=0):∃D l,Tb c 64 0 D/\Ka c v=Hd (c.length+1)::l/\RunOK c v (Hd (c.length+1)::l)/\l.length<=c.length/\(∀x∈Hd (c.length+1)::l,Good c D x\/Last x):=by
 obtain⟨D,E,N⟩:=yX8 hv;obtain⟨hc,ah,_⟩:=OV hv;have hs:Hd ((c.length:Int)+1)={GH with fuel:=(c.length:Int)+1}:=zaf zaa
 have hg:Good c D (Hd ((c.length:Int)+1)):=by
  rw[hs];exact⟨rfl,rfl,CA _,by simp only[GH];omega,E,by simp only[];omega,by simp only[];omega⟩
 obtain⟨l,h1,h2,h3,h4⟩:=Yd2 (v:=v) hv N c.length _ hg (by rw[hs];simp[GH]);exact⟨D,l,N,h1,h2,h3,h4⟩
structure Der where
 code:List Ins
 env:zIL
 am:Int
 er:Int
 lv:List Dig
 deriving Inhabited
def DH(cs:D)(v:zIL)(a e:Int)(L:D):List D:=cs::(Eo v++[I J a,I J e,L])
def Fy(l:List Dig):D:=O (nz 32 (l.map Ds)) (l.map Ds) f_
def EX(d:Der):D:=U (DH (D9 d.code) d.env d.am d.er (Fy d.lv))
def Yy3{a b:List Dig}:Fy a=Fy b↔a=b:=by refine⟨λh=>?_,λh=>by rw[h]⟩;simp only[Fy,D.slc.injEq,zag]at h;exact MK.1 h.2
variable{v':zIL}
def Yrc{cs cs':D}{a a' e N:Int}{L L':D}(h:DH cs v a e L=DH cs' v' a' N L'):cs=cs'/\v=v'/\a=a'/\e=N/\L=L':=by simp only[DH,Ab]at h;obtain⟨h1,E⟩:=List.append_inj' h.2 rfl;simp only[Ab,D.int.injEq,zal,zag]at E;exact⟨h.1,KJ.1 (congrArg D.agg h1),E.1,E.2.1,E.2.2⟩
def YB{a b:Der}:EX a=EX b↔a=b:=by refine⟨λh=>?_,λh=>by rw[h]⟩;obtain⟨a1,a2,a3,a4,a5⟩:=a;obtain⟨b1,b2,b3,b4,b5⟩:=b;simp only[EX,D.agg.injEq]at h;obtain⟨E,N,h3,h4,h5⟩:=Yrc h;subst N;subst h3;subst h4;rw[bj.1 E,Yy3.1 h5]
def Ei:D:=O 0 [] t_
def Iy:zIL:=(0,C7 16 0)
def ua(hv:Et v)(cs:D)(a e:Int)(L:D):(DH cs v a e L).length=21:=by simp[DH,IX hv]
def yOs(v:zIL){cs L:D}(hc:cs.isCell=t_)(E:L.isCell=t_)(a e:Int):(DH cs v a e L).all yaa=t_:=by
 have:(Eo v).all yaa=t_:=by rw[YE,Zd]
 simp only[DH,AQ,Bo,hc,E,this,Cj,tT,B9]
theorem Mq:DM (U [O 0 [] t_,I J 0,I J 0,I J 0,I J 0,I J 0,I J 0,I J 0,I J 0,I J 0,I J 0,I J 0,I J 0,I J 0,I J 0,I J 0,I J 0,I J 0,I J 0,I J 0,O 0 [] t_])=s_ (DH Ei Iy 0 0 Ei):=(rfl)
theorem Wb:Ec [O 0 [] t_,I J 0,I J 0,I J 0,I J 0,I J 0,I J 0,I J 0,I J 0,I J 0,I J 0,I J 0,I J 0,I J 0,I J 0,I J 0,I J 0,I J 0,I J 0,I J 0,O 0 [] t_] []=s_ (DH Ei Iy 0 0 Ei):=(rfl)
def YBj(hv:Et v)(sz:Nat)(els:List D)(t:Bool):Ec [O 0 [] t_,I J 0,I J 0,I J 0,I J 0,I J 0,I J 0,I J 0,I J 0,I J 0,I J 0,I J 0,I J 0,I J 0,I J 0,I J 0,I J 0,I J 0,I J 0,I J 0,O 0 [] t_] [(0,1,O sz els t),(1,17,EO v)]=s_ (DH (O sz els t) v 0 0 Ei):=by
 refine(Kd (cs:=DH Ei Iy 0 0 Ei) (cs':=DH (O sz els t) Iy 0 0 Ei) (A:=[]) (B:=[Ei]) (xs:=[O sz els t]) rfl rfl rfl rfl rfl rfl rfl).trans ?_;refine(Kd (cs:=DH (O sz els t) Iy 0 0 Ei) (cs':=DH (O sz els t) v 0 0 Ei) (A:=[O sz els t]) (B:=Eo Iy) (xs:=Eo v) rfl rfl rfl rfl rfl (IX hv) ?_).trans ?_
 .rw[YE,Zd]
 .rfl
def pg(hv:Et v)(aa:Et v')(cs cs':D)(hc:cs'.isCell=t_)(a e a' E:Int)(L N:D)(hL:N.isCell=t_):DV (s_ (zzB (DH cs v a e L))) 21 0 (U (DH cs' v' a' E N))=s_ (zzB (DH cs' v' a' E N)):=
 Hs 1 _ _ 21 (ua hv ..) (ua aa ..) (yOs v' hc hL a' E)
theorem pA:Et Iy:=(rfl)
section
variable{v:zIL} (hv:Et v) (lent:Bool) (cs L:D) (a e:Int)
include hv
def Yt2:DB (s_ ⟨f_,1,DH cs v a e L,lent⟩) 21 t_ 0=s_ (U (DH cs v a e L)):=Is 1 lent _ 21 (ua hv ..)
def vz:DB (s_ ⟨f_,1,DH cs v a e L,lent⟩) 17 t_ 1=s_ (EO v):=Og (A:=[cs]) (B:=Eo v) (C:=[I J a,I J e,L]) rfl rfl (IX hv)
def yV5:DB (s_ ⟨f_,1,DH cs v a e L,lent⟩) 1 f_ 18=s_ (I J a):=Ke (A:=cs::Eo v) (C:=[I J e,L]) (by simp[DH]) (by simp[IX hv])
def wT:DB (s_ ⟨f_,1,DH cs v a e L,lent⟩) 1 f_ 20=s_ L:=Ke (A:=cs::(Eo v++[I J a,I J e])) (C:=[]) (by simp[DH]) (by simp[IX hv])
def yT9(a':Int):DV (s_ (zzB (DH cs v a e L))) 1 18 (I J a')=s_ (zzB (DH cs v a' e L)):=
 LR (A:=cs::Eo v) (B:=[I J a]) (C:=[I J e,L]) (xs:=[I J a']) (by simp[DH]) (by simp[DH]) (by simp[IX hv]) rfl rfl rfl rfl
def yT8(E:Int):DV (s_ (zzB (DH cs v a e L))) 1 19 (I J E)=s_ (zzB (DH cs v a E L)):=
 LR (A:=cs::(Eo v++[I J a])) (B:=[I J e]) (C:=[L]) (xs:=[I J E]) (by simp[DH]) (by simp[DH]) (by simp[IX hv]) rfl rfl rfl rfl
def Ymo(E:D)(N:E.cells=[E])(h2:E.isCell=t_):DV (s_ (zzB (DH cs v a e L))) 1 20 E=s_ (zzB (DH cs v a e E)):=
 LR (A:=cs::(Eo v++[I J a,I J e])) (B:=[L]) (C:=[]) (xs:=[E]) (by simp[DH]) (by simp[DH]) (by simp[IX hv]) rfl N rfl (by simp[h2])
end
theorem z0:DV (s_ (zzB (DH Ei Iy 0 0 Ei))) 21 0 (U (DH Ei Iy 0 0 Ei))=s_ (zzB (DH Ei Iy 0 0 Ei)):=(rfl)
theorem Xv:DB (s_ (zzB (DH Ei Iy 0 0 Ei))) 21 t_ 0=s_ (U (DH Ei Iy 0 0 Ei)):=(rfl)
def yMa(hv:Et v)(cs L:D)(a e:Int)(k t o n:Nat):DV (s_ (zzB (DH cs v a e L))) 1 20 (.row k t o n)=s_ (zzB (DH cs v a e (.row k t o n))):=Ymo hv cs L a e _ rfl rfl
def vw(v:zIL)(lent:Bool)(cs L:D)(a e:Int):DB (s_ ⟨f_,1,DH cs v a e L,lent⟩) 1 f_ 0=s_ cs:=Ke (A:=[]) rfl rfl
def Vg(o:Option PI.Obj):Option Int:=o.bind λo=>if !o.row&&o.sz==1000003 then(match o.els with
  |[I J n]=>s_ n
  |_=>n_)else n_
theorem qS(st:St)(k:Nat):recAt st k=Vg st[k]?:=by unfold recAt Vg;grind
theorem pr(n:Int):Vg (s_ (recO n))=s_ n:=(rfl)
structure okS (s:Sta):Prop where
 l:s.stack.length<=4294967296
 t:s.status<=1000000
def Oy(c:List Ins)(v:zIL)(a e:Int)(L:D)(s:Sta)(n:Int)(ex:St):St:=
 (zzB [D9 c])::(zzB (Eo v))::(zzB (DH Ei Iy 0 0 Ei))::(zzB (DH (D9 c) v a e L))::(zzB [D9 c])::(zzB (Eo v))::recO n::(zzB (El s))::ex
def Nm:Tbl:=Yd [(56,qh),(57,yQ),(54,Sy)] [(55,XX)] [(103,U3)]
def Ync(c:List Ins)(v:zIL)(hc:c.length<=4096)(hv:Et v)(s:Sta)(E:okS s)(fr:Frame)(N:fr 2=Y 0 0)(h3:fr 3=Y 1 0)(h8:fr 8=Y 3 0)(m:Nat):
  MH (Xh.1.exec GG Nm m) (Xi.1.exec GG Nm m) fr [26,27] 6 [I J 0,Eh s] (Oy c v 0 0 Ei s 0 [])=s_ (V t_,Oy c v (Er s).1 (Er s).2.2 (.row 9 1 0 1) s 0 ((zzB (El s))::⟨t_,32,[Dr (Em c v s)].map .agg,f_⟩::[])):=by
 refine qU rfl rfl rfl ?_ m;have cd:=ya c v s ⟨zaa,hv,E.l⟩;have cr:=yFg s ⟨E.l,E.t⟩
 try unfold Xh;unfold Oy
 push_cast(disch:=lia)[K0,JI,Mw]
 try unfold Xi
 have pf:=λst=>yRo Ds st 32 0 32 (Em c v s) t_ zab zab
 push_cast(disch:=lia)[N,h3,h8,D9,wT hv,HK hv,JG,Gc,LO,Qc,cd,cr,Ei,pf,yT9 hv,yT8 hv,yMa hv,qS,pr,aM,Nm]
def Yd4(c:List Ins)(v:zIL)(hc:c.length<=4096)(hv:Et v)(s:Sta)(E:okS s)(L:List Dig)(hL:L.length<=100000)(a e:Int)(x:PI.Obj)(N:St)(i:Nat)(fr:Frame)(h2:fr 2=Y 0 0)(h3:fr 3=Y 1 0)(h8:fr 8=Y 3 0)(m:Nat):
  MH (Xh.1.exec GG Nm m) (Xi.1.exec GG Nm m) fr [26,27] 6 [I J (i:Int),Eh s] (Oy c v a e (.row 9 L.length 0 L.length) s 0 (x::⟨t_,32,L.map Ds,f_⟩::N))=
   s_ (V t_,Oy c v (Er s).1 (Er s).2.2 (.row 9 (L++[Em c v s]).length 0 (L++[Em c v s]).length) s 0 (x::⟨t_,32,(L++[Em c v s]).map Ds,f_⟩::(N++[Iv s]))):=by
 refine qU rfl rfl rfl ?_ m;have cd:=ya c v s ⟨zaa,hv,E.l⟩;have cr:=yFg s ⟨E.l,E.t⟩
 try unfold Xh;unfold Oy
 have pf:=λst=>Ylb Ds 32 32 L (Em c v s) f_ t_ st zab zaa zaa
 push_cast(disch:=lia)[K0,JI,Mw,F3,bw]
 try unfold Xi
 push_cast(disch:=lia)[h2,h3,h8,D9,wT hv,HK hv,JG,Gc,LO,Qc,cd,cr,Ei,pf,yT9 hv,yT8 hv,yMa hv,qS,pr,aM,Nm,F3]
 rfl
def J7(l:List Sta):Sta:=(l.getLast?).getD GH
theorem Yac(s s':Sta)(l:List Sta):J7 (s::s'::l)=J7 (s'::l):=(rfl)
theorem Yd5(c:List Ins)(v:zIL)(hc:c.length<=4096)(hv:Et v)(fr:Frame)(N:fr 2=Y 0 0)(h3:fr 3=Y 1 0)(h8:fr 8=Y 3 0)(m:Nat)(x:PI.Obj):∀(l:List Sta)(s:Sta)(L:List Dig)(a e:Int)(ex:St),
  RunOK c v (s::l)->(∀y∈s::l,okS y)->L.length+l.length<=100000->
  RunY (MH (Xh.1.exec GG Nm m) (Xi.1.exec GG Nm m) fr [26,27] 6) 7 4 5 (s::l) L.length (Oy c v a e (.row 9 L.length 0 L.length) s 0 (x::⟨t_,32,L.map Ds,f_⟩::ex))
   (Oy c v (Er (J7 (s::l))).1 (Er (J7 (s::l))).2.2 (.row 9 (L++(s::l).map (Em c v)).length 0 (L++(s::l).map (Em c v)).length) (J7 (s::l)) 0 (x::⟨t_,32,(L++(s::l).map (Em c v)).map Ds,f_⟩::(ex++(s::l).map Iv)))
 |[],s,L,a,e,ex,hr,E,hl=>.last (Yd4 c v hc hv s (E s zac) L (by simpa using hl) a e x ex L.length fr N h3 h8 m) rfl
 |s'::l,s,L,a,e,ex,hr,E,hl=>by
  have h:=Yd5 c v hc hv fr N h3 h8 m x l s' (L++[Em c v s]) (Er s).1 (Er s).2.2 (ex++[Iv s]) hr.2.2.2 (λy hy=>E y (by simp[hy])) (by simp at hl⊢;omega);refine .next (Yd4 c v hc hv s (E s zac) L (by simp at hl;omega) a e x ex L.length fr N h3 h8 m) rfl rfl rfl ?_
  rw[Yac];have e1:L++(s::s'::l).map (Em c v)=(L++[Em c v s])++(s'::l).map (Em c v):=zac
  have e2:(L++[Em c v s]).length=L.length+1:=zac
  have e3:ex++(s::s'::l).map Iv=(ex++[Iv s])++(s'::l).map Iv:=zac
  rw[e1,e3,<-e2];exact h
def YGu(c:List Ins)(v:zIL)(hc:c.length<=4096)(hv:Et v)(fr:Frame)(E:fr 2=Y 0 0)(N:fr 3=Y 1 0)(h8:fr 8=Y 3 0)(m:Nat)(l:List Sta)(s:Sta)(hr:RunOK c v (s::l))(ho:∀y∈s::l,okS y)(hl:l.length<=90000):
  RunY (MH (Xh.1.exec GG Nm m) (Xi.1.exec GG Nm m) fr [26,27] 6) 7 4 5 (s::l) 0 (Oy c v 0 0 Ei s 0 [])
   (Oy c v (Er (J7 (s::l))).1 (Er (J7 (s::l))).2.2 (.row 9 ((s::l).map (Em c v)).length 0 ((s::l).map (Em c v)).length) (J7 (s::l)) 0 ((zzB (El s))::⟨t_,32,((s::l).map (Em c v)).map Ds,f_⟩::l.map Iv)):=by
 have h1:=Ync c v hc hv s (ho s zac) fr E N h8 m
 cases l with
 |nil=>exact .last h1 rfl
 |cons s' l=>exact .next h1 rfl rfl rfl (Yd5 c v hc hv fr E N h8 m (zzB (El s)) l s' [Em c v s] (Er s).1 (Er s).2.2 [] hr.2.2.2 (λy hy=>ho y (by simp[hy])) (by simp at hl⊢;omega))
def QH:Der:=⟨[],Iy,0,0,[]⟩
def Hw(c:List Ins)(v:zIL):Der:=if(FQ c).2=0 then⟨c,v,(Er (J7 (Ka c v))).1,(Er (J7 (Ka c v))).2.2,(Ka c v).map (Em c v)⟩else QH
theorem Zp(st:St):∀{A:List D}(B:List D),A.all E2=t_->Ef st (A++B)=(Ef st B).map (A++·)
 |[],B,_=>zac
 |d::A,B,h=>by
  simp only[AQ,Af]at h;rw[Aj,Ef,tH st h.1,Zp st B h.2];cases Ef st B<;>rfl
def SK(v:zIL):(Eo v).all E2=t_:=by rw[YE];exact Um (v.1::v.2)
def yWl(st:St)(cs cs' L E:D)(v:zIL)(a e:Int)(N:DO st cs=s_ cs')(h2:DO st L=s_ E):D2 st (U (DH cs v a e L))=s_ (U (DH cs' v a e E)):=by simp only[D2,DH,Ef,N,Zp st _ (SK v),h2,wM,Ae]
def Yqb(st:St)(c:List Ins)(v:zIL)(a e:Int)(L:List Dig)(k:Nat)(lent:Bool)(hk:st[k]?=s_ ⟨t_,32,L.map Ds,lent⟩):D2 st (U (DH (D9 c) v a e (.row k L.length 0 L.length)))=s_ (EX ⟨c,v,a,e,L⟩):=by
 refine yWl st _ _ _ _ v a e (by simp only[D9,DO,Jq]) ?_
 have E:I6 st k L.length 0 L.length=s_ (32,L.map Ds):=by
  rw[yMk,hk];exact Yel Ds 32 L lent
 simp only[DO,E,Ae];rfl
theorem Wv(st:St):D2 st (U (DH Ei Iy 0 0 Ei))=s_ (EX QH):=(rfl)
def P5(st:St)(d:Der):D2 st (EX d)=s_ (EX d):=yWl st _ _ _ _ _ _ _ (by simp only[D9,DO,Jq]) (by simp only[Fy,DO,Jq])
def YA4{D:Nat->Int}(E:Tb c 64 0 D){x:Sta}(h:Good c D x\/Last x):okS x:=by
 rcases h with h|h
 .exact⟨by have:=h.len E;omega,by have:=h.st;omega⟩
 .exact⟨by have:=h.l;omega,by have:=h.s1;omega⟩
def oZ:=DL (α:=List Ins×(zIL)) (λa=>[O (nz 3 (a.1.map Dt)) (a.1.map Dt) f_,EO a.2]) (λa=>a.1.length<=9223372036854775807/\Et a.2) (λa=>.tup [EX (Hw a.1 a.2),I J (FQ a.1).2])
def Yrr(c:List Ins)(v:zIL)(h:c.length<=9223372036854775807/\Et v):oZ [O (nz 3 (c.map Dt)) (c.map Dt) f_,EO v]=s_ (.tup [EX (Hw c v),I J (FQ c).2]):=
 EL (λ⟨a0,a1⟩⟨b0,b1⟩h=>by simp only[Ab,D.slc.injEq,zag,Lq,KJ]at h;simp[h]) (c,v) h
theorem bQ(c:List Ins)(v:zIL)(h:c.length<=9223372036854775807/\Et v):@wW GG Nm Xe.1.code (Du [D9 c,EO v]) [] ⟨DN Xe.1.res (.tup [EX (Hw c v),I J (FQ c).2])⟩:=by
 obtain⟨hc,hv⟩:=h;have cv:=Zm c hc;have cs:=yXf c v [zzB [O (nz 3 (c.map Dt)) (c.map Dt) f_],zzB (Eo v),zzB (DH Ei Iy 0 0 Ei),zzB (DH (O (nz 3 (c.map Dt)) (c.map Dt) f_) v 0 0 Ei)] hv;simp only[D9]at cs;unfold Xe
 by_cases N:(FQ c).2=0
 .obtain⟨Dm,l,hD,ht,hr,a4,hg⟩:=T5 (v:=v) N;obtain⟨aa,_⟩:=OV N;rw[show Hw c v=⟨c,v,(Er (J7 (Ka c v))).1,(Er (J7 (Ka c v))).2.2,(Ka c v).map (Em c v)⟩from zae N,ht];have sd:∀(sz:Nat)(els:List D)(t:Bool),DV (s_ (zzB (DH Ei Iy 0 0 Ei))) 21 0 (U (DH (O sz els t) v 0 0 Ei))=s_ (zzB (DH (O sz els t) v 0 0 Ei)):=λsz els t=>pg pA hv Ei _ rfl 0 0 0 0 Ei Ei rfl;simp(disch:=grind) only[push_cast,↓reduceIte,C3,C6,Nm,D9,FY,Mq,cv,N,HK hv,YBj hv,sd,cs];refine uJ (e:=.next) (st':=Oy c v (Er (J7 (Hd ((c.length:Int)+1)::l))).1 (Er (J7 (Hd ((c.length:Int)+1)::l))).2.2 (.row 9 ((Hd ((c.length:Int)+1)::l).map (Em c v)).length 0 ((Hd ((c.length:Int)+1)::l).map (Em c v)).length) (J7 (Hd ((c.length:Int)+1)::l)) 0 ((zzB (El (Hd ((c.length:Int)+1))))::⟨t_,32,((Hd ((c.length:Int)+1)::l).map (Em c v)).map Ds,f_⟩::l.map Iv)) (d:=.tup []) (by simp only[push_cast,↓reduceIte]<;>rfl) zab zad (λm=>?_) rfl ?_
  .refine wa ⟨4,5,c,v,l,f_,f_,rfl,rfl,rfl,aa,hv,zaa,hr,rfl,?_⟩;exact YGu c v aa hv _ rfl rfl rfl m l _ hr (λy hy=>YA4 hD (hg y hy)) zaa
  .unfold Oy
   have ad:∀(E:List Dig)(o6 o7:PI.Obj)(ex:St)(a e:Int),D2 ((zzB [D9 c])::(zzB (Eo v))::(zzB (DH (D9 c) v a e (.row 9 E.length 0 E.length)))::(zzB (DH (D9 c) v a e (.row 9 E.length 0 E.length)))::(zzB [D9 c])::(zzB (Eo v))::recO 2::o6::o7::⟨t_,32,E.map Ds,f_⟩::ex) (U (DH (D9 c) v a e (.row 9 E.length 0 E.length)))=s_ (EX ⟨c,v,a,e,E⟩):=
    λE o6 o7 ex a e=>Yqb _ c v a e E 9 f_ rfl
   have sr:∀(k t o n:Nat)(a e:Int),DV (s_ (zzB (DH Ei Iy 0 0 Ei))) 21 0 (U (DH (D9 c) v a e (.row k t o n)))=s_ (zzB (DH (D9 c) v a e (.row k t o n))):=λk t o n a e=>pg pA hv Ei _ rfl 0 0 _ _ Ei _ rfl;generalize (Hd ((c.length:Int)+1)::l).map (Em c v)=E;generalize Er (J7 (Hd ((c.length:Int)+1)::l))=R;simp(disch:=grind) only[push_cast,↓reduceIte,C3,C6,Yt2 hv,sr,ad,N]
 .rw[show Hw c v=QH from zaf N];simp(disch:=grind) only[push_cast,↓reduceIte,C3,C6,Nm,D9,FY,Mq,cv,N,Wb,z0,Xv,Wv]
def jz:zCC 17 oZ:=
 EM (T:=Nm) Xe.2 (Yta (all_cons Yuo (all_cons Yr1 (all_cons aB all_nil))) (all_cons Yul all_nil) (all_cons Yuf all_nil)) (λa h=>bQ a.1 a.2 h)
def Of(d:Der):DM (EX d)=s_ (DH (D9 d.code) d.env d.am d.er (Fy d.lv)):=by rw[show DM (EX d)=if(DH (D9 d.code) d.env d.am d.er (Fy d.lv)).all yaa then s_ (DH (D9 d.code) d.env d.am d.er (Fy d.lv))else n_ from rfl,zae (yOs _ rfl rfl _ _)]
def Gu(c:List Ins)(v:zIL)(n:Int):Sta×Int:=if(FQ c).2=0 then(if n<0 then(GH,1)else match(Ka c v)[n.toNat]? with
 |some s=>(s,0)
 |none=>(GH,1))else(GH,(FQ c).2)
def Nj:List D:=[I J 0,I J 0,I J 0,I J 0,O 0 [] t_]
theorem Yku:DM (U [I J 0,I J 0,I J 0,I J 0,O 0 [] t_])=s_ Nj:=(rfl)
theorem YFz(s:Sta):DV (s_ (zzB Nj)) 5 0 (Eh s)=s_ (zzB (El s)):=(rfl)
theorem Yc8:DV (s_ (zzB Nj)) 5 0 (U [I J 0,I J 0,I J 0,I J 0,O 0 [] t_])=s_ (zzB Nj):=(rfl)
theorem Ytx(lent:Bool):DB (s_ ⟨f_,1,Nj,lent⟩) 5 t_ 0=s_ (U [I J 0,I J 0,I J 0,I J 0,O 0 [] t_]):=(rfl)
def LY(d:Der)(n:Int)(r:List D)(e:Int)(s:Sta)(k:Int)(ex:St):St:=
 (zzB (DH (D9 d.code) d.env d.am d.er (Fy d.lv)))::(zzB [I J n])::(zzB r)::(zzB [I J e])::(zzB [D9 d.code])::(zzB (Eo d.env))::recO k::(zzB (El s))::ex
def Ox:Tbl:=Yd [(54,Sy)] [(55,XX)] [(103,U3)]
def YGq(d:Der)(n:Int)(s:Sta)(r:List D)(e:Int)(E:St)(i:Nat)(hi:¬(i:Int)=n)(fr:Frame)(N:fr 3=Y 1 0)(h4:fr 4=Y 2 0)(h5:fr 5=Y 3 0)(m:Nat):
  MH (ZY.1.exec GG Ox m) (ZZ.1.exec GG Ox m) fr [25,26] 6 [I J (i:Int),Eh s] (LY d n r e s 0 E)=s_ (V t_,LY d n r e s 0 (E++[Iv s])):=by
 refine qU rfl rfl rfl ?_ m
 try unfold ZY;unfold LY
 push_cast(disch:=lia)[K0,JI,Mw,F3,bw]
 try unfold ZZ
 push_cast(disch:=lia)[N,qS,pr,aM,Ox,hi]
 rfl
def YGp(d:Der)(s:Sta)(E:St)(i:Nat)(fr:Frame)(N:fr 3=Y 1 0)(h4:fr 4=Y 2 0)(h5:fr 5=Y 3 0)(m:Nat):
  MH (ZY.1.exec GG Ox m) (ZZ.1.exec GG Ox m) fr [25,26] 6 [I J (i:Int),Eh s] (LY d (i:Int) Nj 0 s 0 E)=s_ (V f_,LY d (i:Int) (El s) 0 s 1 (E++[Iv s])):=by
 refine qU rfl rfl rfl ?_ m
 try unfold ZY;unfold LY
 push_cast(disch:=lia)[K0,JI,Mw,F3,bw]
 try unfold ZZ
 push_cast(disch:=lia)[N,h4,h5,qS,pr,aM,Ox,F3,JG,YFz]
 rfl
def Mn(d:Der)(n:Int)(l:List Sta)(i:Nat)(ex:St):St:=match l with
 |[]=>[]
 |s::l=>if(i:Int)=n then LY d n (El s) 0 s 1 (ex++[Iv s])else match l with
  |[]=>LY d n Nj 0 s 0 (ex++[Iv s])
  |s'::l=>Mn d n (s'::l) (i+1) (ex++[Iv s])
theorem vE(d:Der)(hv:Et d.env)(n:Int)(fr:Frame)(E:fr 3=Y 1 0)(N:fr 4=Y 2 0)(h5:fr 5=Y 3 0)(m:Nat):∀(l:List Sta)(s:Sta)(i:Nat)(ex:St),
  RunY (MH (ZY.1.exec GG Ox m) (ZZ.1.exec GG Ox m) fr [25,26] 6) 7 4 5 (s::l) i (LY d n Nj 0 s 0 ex) (Mn d n (s::l) i ex)
 |l,s,i,ex=>by
  by_cases hi:(i:Int)=n
  .subst hi;rw[show Mn d (i:Int) (s::l) i ex=LY d (i:Int) (El s) 0 s 1 (ex++[Iv s]) by unfold Mn;rw[zae rfl]];exact .stop (YGp d s ex i fr E N h5 m)
  .match l with
   |[]=>
    rw[show Mn d n [s] i ex=LY d n Nj 0 s 0 (ex++[Iv s]) by unfold Mn;rw[zaf hi]];exact .last (YGq d n s Nj 0 ex i hi fr E N h5 m) rfl
   |s'::l=>
    rw[show Mn d n (s::s'::l) i ex=Mn d n (s'::l) (i+1) (ex++[Iv s]) by rw[Mn,zaf hi]];exact .next (YGq d n s Nj 0 ex i hi fr E N h5 m) rfl rfl rfl (vE d hv n fr E N h5 m l s' (i+1) (ex++[Iv s]))
theorem yUp(d:Der)(n:Int):∀(l:List Sta)(s:Sta)(i:Nat)(ex:St),(∃k s',n=(i:Int)+(k:Nat)/\(s::l)[k]?=s_ s'/\∃E,Mn d n (s::l) i ex=LY d n (El s') 0 s' 1 E)\/
  ((n<i\/(i:Int)+((s::l).length:Nat)<=n)/\∃s' E,Mn d n (s::l) i ex=LY d n Nj 0 s' 0 E)
 |l,s,i,ex=>by
  by_cases hi:(i:Int)=n
  .exact .inl ⟨0,s,zaa,rfl,ex++[Iv s],by unfold Mn;rw[zae hi]⟩
  .match l with
   |[]=>exact .inr ⟨by simp;omega,s,ex++[Iv s],by unfold Mn;rw[zaf hi]⟩
   |s'::l=>
    rw[show Mn d n (s::s'::l) i ex=Mn d n (s'::l) (i+1) (ex++[Iv s]) by rw[Mn,zaf hi]];rcases yUp d n l s' (i+1) (ex++[Iv s])with⟨k,x,h1,N,h3⟩|⟨h1,N⟩
    .exact .inl ⟨k+1,x,zaa,by simpa using N,h3⟩
    .grind
def xU:=DL (α:=Der×Int) (λa=>[EX a.1,I J a.2]) (λa=>a.1.code.length<=9223372036854775807/\Et a.1.env) (λa=>.tup [Eh (Gu a.1.code a.1.env a.2).1,I J (Gu a.1.code a.1.env a.2).2])
def Ybv(d:Der)(n:Int)(h:d.code.length<=9223372036854775807/\Et d.env):xU [EX d,I J n]=s_ (.tup [Eh (Gu d.code d.env n).1,I J (Gu d.code d.env n).2]):=
 EL (λ⟨a0,a1⟩⟨b0,b1⟩h=>by simp only[Ab,D.int.injEq,zal,zag,YB]at h;simp[h]) (d,n) h
theorem Yve(d:Der)(n:Int)(h:d.code.length<=9223372036854775807/\Et d.env):@wW GG Ox Xg.1.code (Du [EX d,I J n]) [] ⟨DN Xg.1.res (.tup [Eh (Gu d.code d.env n).1,I J (Gu d.code d.env n).2])⟩:=by
 obtain⟨hc,hv⟩:=h;have cv:=Zm d.code hc;have cs:=yXf d.code d.env [zzB (DH (D9 d.code) d.env d.am d.er (Fy d.lv)),zzB [I J n],zzB Nj,zzB [I J 0]] hv;have l0:∀lent,DB (s_ ⟨f_,1,DH (D9 d.code) d.env d.am d.er (Fy d.lv),lent⟩) 1 f_ 0=s_ (O (nz 3 (d.code.map Dt)) (d.code.map Dt) f_):=λlent=>vw d.env lent (D9 d.code) (Fy d.lv) d.am d.er;have l1:=λlent=>vz hv lent (D9 d.code) (Fy d.lv) d.am d.er;rw[show XX [D9 d.code,EO d.env]=XX [O (nz 3 (d.code.map Dt)) (d.code.map Dt) f_,EO d.env]from rfl]at cs;unfold Xg
 by_cases E:(FQ d.code).2=0
 .obtain⟨Dm,l,hD,ht,hr,ah,hg⟩:=T5 (v:=d.env) E;obtain⟨aa,_⟩:=OV E
  push_cast(disch:=lia)[Ox,Of,Yku,cv,E,l0,l1,cs]
  have ab:∀x,Gu d.code d.env n=x↔(if n<0 then(GH,1)else match(Hd ((d.code.length:Int)+1)::l)[n.toNat]? with
   |some s=>(s,(0:Int))
   |none=>(GH,1))=x:=λx=>by unfold Gu;rw[zae E,ht]
  rcases yUp d n l (Hd ((d.code.length:Int)+1)) 0 []with⟨k,s',hn,hk,N,he⟩|⟨hn,s',N,he⟩
  .refine uJ (e:=.ret) (st':=LY d n (El s') 0 s' 1 N) (d:=.tup []) (by push_cast<;>rfl) zab zad (λm=>?_) rfl ?_
   .refine wa ⟨4,5,d.code,d.env,l,f_,f_,rfl,rfl,rfl,aa,hv,zaa,hr,rfl,?_⟩;rw[<-he];exact vE d hv n _ rfl rfl rfl m l _ 0 []
   .rw[(ab (s',0)).2 (by rw[YYN,show n.toNat=k by omega,hk])];unfold LY
    push_cast(disch:=lia)[JG,LO]
  .refine uJ (e:=.next) (st':=LY d n Nj 0 s' 0 N) (d:=.tup []) (by push_cast<;>rfl) zab zad (λm=>?_) rfl ?_
   .refine wa ⟨4,5,d.code,d.env,l,f_,f_,rfl,rfl,rfl,aa,hv,zaa,hr,rfl,?_⟩;rw[<-he];exact vE d hv n _ rfl rfl rfl m l _ 0 []
   .have e1:Gu d.code d.env n=(GH,1):=(ab _).2 (by
     grind)
    rw[e1];unfold LY
    push_cast(disch:=lia)[aW,Yc8,Ytx]
    rfl
 .rw[show Gu d.code d.env n=(GH,(FQ d.code).2)from zaf E]
  push_cast(disch:=lia)[Ox,Of,Yku,cv,E,l0,aW,Yc8,Ytx]
  rfl
def YCj:zCC 23 xU:=
 EM (T:=Ox) Xg.2 (Yta (all_cons aB all_nil) (all_cons Yul all_nil) (all_cons Yuf all_nil)) (λa h=>Yve a.1 a.2 h)
theorem FV(S l:St)(k:Nat):(S++l)[S.length+k]?=l[k]?:=by grind
def Hu(S l:St):(S++l)[S.length]?=l[0]?:=FV S l 0
theorem F6(S l:St)(k:Nat)(x:PI.Obj):(S++l).set (S.length+k) x=S++l.set k x:=by grind
def HL(S l:St)(x:PI.Obj):(S++l).set S.length x=S++l.set 0 x:=F6 S l 0 x
def OU(fr:Frame)(st:St)(t n:Nat)(ag:Bool)(l:List PRes):Ed ⟨fr,st⟩ (.cell t n ag::l)=(Fa st n ag (fr t)).bind λd=>(Ed ⟨fr,st⟩ l).map (d::·):=by simp only[Ed];cases Fa st n ag (fr t)<;>cases Ed ⟨fr,st⟩ l<;>rfl
def Jz(p:Dig×Dig):D:=U (Dr p.1++Dr p.2)
def pY{a b:Dig×Dig}:Jz a=Jz b↔a=b:=by refine⟨λh=>?_,λh=>by rw[h]⟩;obtain⟨a1,a2⟩:=a;obtain⟨b1,b2⟩:=b;simp only[Jz,D.agg.injEq]at h;obtain⟨E,N⟩:=Bb h (by rw[En,En]);rw[Ng.1 E,Ng.1 N]
def YB4(p:Dig×Dig):(Dr p.1++Dr p.2).all yaa=t_:=by rw[Bo,My (λ_=>rfl),My (λ_=>rfl)];rfl
def Yi1(p:Dig×Dig):(Dr p.1++Dr p.2).length=64:=by simp[En]
def Ykv(p:Dig×Dig):DM (Jz p)=s_ (Dr p.1++Dr p.2):=by rw[show DM (Jz p)=if(Dr p.1++Dr p.2).all yaa then s_ (Dr p.1++Dr p.2)else n_ from rfl,zae (YB4 p)]
def Yzi(lent:Bool)(p:Dig×Dig):DB (s_ ⟨f_,1,Dr p.1++Dr p.2,lent⟩) 64 t_ 0=s_ (Jz p):=Is 1 lent _ 64 (Yi1 p)
def cl_0(p:Dig×Dig):Qt 2 32 t_ (Jz p) (I J 0)=s_ (Ds p.1):=
 yWx (A:=[]) (B:=Dr p.1) (C:=Dr p.2) rfl rfl (En _)
def cl_1(p:Dig×Dig):Qt 2 32 t_ (Jz p) (I J 1)=s_ (Ds p.2):=
 yWx (A:=Dr p.1) (B:=Dr p.2) (C:=[]) (by rw[Ai]) (En _) (En _)
def yW9(p:Dig×Dig):JE (Jz p)=t_:=by simp only[Jz,JE,Bo];rw[show(Dr p.1).all E2=t_ from Uj _,show(Dr p.2).all E2=t_ from Uj _];rfl
def YAs(p:Dig×Dig):hk (Jz p)=[]:=qY (yW9 p)
def Yef(n:Nat)(σ:List Nat)(p:Dig×Dig):ED n σ (Jz p)=Jz p:=Uf n σ (yW9 p)
def Fe(p:Int×Dig):D:=U (I J p.1::Dr p.2)
def OJ(cl:Dig×Dig)(d:Dig):Int:=if cl.1=d then 0 else if cl.2=d then 1 else -1
def Iz(cl:Dig×Dig)(r:Dig×Int):Int×Dig:=if r.2=0 then(OJ cl r.1,r.1)else(0,DX)
def Gg(cl:Dig×Dig):PI.Obj:=(zzB (Dr cl.1++Dr cl.2))
def FW(p:Int×Dig):PI.Obj:=(zzB (I J p.1::Dr p.2))
def Yt5(f:Nat)(sp:zsF)(ds:List D)(st:St)(r:D×St):Prop:=∃(cl:Dig×Dig)(caps:List D)(d:Dig)(e:Int),StOK st/\ds=[Jz cl,.clo f caps]/\
 sp caps (st++[Gg cl,FW (0,DX)])=s_ (.tup [Ds d,I J e],st++[Gg cl,FW (0,DX)])/\r=(.tup [Fe (Iz cl (d,e)),I J e],st)
theorem yN4(f:Nat)(sp:zsF):Jo (Yt5 f sp):=by rintro ds st r r' ⟨cl,aa,d,e,_,rfl,h2,rfl⟩ ⟨ac,N,d',e',_,h,E,rfl⟩;simp only[Ab,D.clo.injEq,zag,zal,pY]at h;obtain⟨rfl,rfl⟩:=h;rw[h2]at E;simp only[Dv,D4,D.tup.injEq,Ab,NG,D.int.injEq,zal,zag]at E;grind
def Wy(f:Nat)(sp:zsF):zsF:=Gf (Yt5 f sp)
def Zi{S:St}(h:StOK S)(l:St)(hl:∀o∈l,o.els.all E2=t_):StOK (S++l):=
 h.app _ λo E _ x N=>Uf _ _ (mP (Ad.1 (hl o E) x N))
def MM(d:Dig):(Dr d).all E2=t_:=Uj d
def WY(cl:Dig×Dig):(Gg cl).els.all E2=t_:=by simp only[Gg,Bo,MM];rfl
def YDq(p:Int×Dig):(FW p).els.all E2=t_:=by simp only[FW,AQ,MM];rfl
def O6{S l:St}(h:StOK S):cut S.length (S++l)=S:=Yug h rfl
def Yo7(n:Nat)(a:Int)(d:Dig)(e:Int):Ji n (.tup [U (I J a::Dr d),I J e])=.tup [U (I J a::Dr d),I J e]:=by
 have h:Ia n (U (I J a::Dr d))=U (I J a::Dr d):=by
  rw[<-vW];exact Uf n [] (d:=U (I J a::Dr d)) (by simp only[JE,AQ,MM];rfl)
 simp only[Ji,Av,Bc,h];rfl
def XZ(p:Int×Dig)(a:Int)(d:Dig):DV (s_ (FW p)) 33 0 (U (I J a::Dr d))=s_ (FW (a,d)):=
 Hs 1 _ _ 33 (by simp[En]) (by simp[En]) (by rw[AQ,My (λ_=>rfl)];rfl)
def XR(p:Int×Dig):DB (s_ (FW p)) 33 t_ 0=s_ (Fe p):=Is 1 f_ _ 33 (by simp[En])
def YId(cl:Dig×Dig):DB (s_ (Gg cl)) 64 t_ 0=s_ (Jz cl):=Yzi f_ cl
def wE(a:Int)(d:Dig):Ec (I J 0::Dr DX) [(0,1,I J a),(1,32,Ds d)]=s_ (I J a::Dr d):=by refine(Kd (cs:=I J 0::Dr DX) (cs':=I J a::Dr DX) (A:=[]) (B:=[I J 0]) (xs:=[I J a]) rfl rfl rfl rfl rfl rfl rfl).trans ?_;refine(Kd (cs:=I J a::Dr DX) (cs':=I J a::Dr d) (A:=[I J a]) (B:=Dr DX) (C:=[]) (xs:=Dr d) zac zac rfl (En _) rfl (En _) (My (λ_=>rfl) d)).trans ?_;rfl
def qo(n:Nat)(p:Int×Dig)(e:Int):Ji n (.tup [Fe p,I J e])=.tup [Fe p,I J e]:=Yo7 n p.1 p.2 e
theorem yXb(f:Nat)(hf:f<5000000)(sp:zsF)(hc:zIC f sp):zIC 112 (Wy f sp):=by
 refine mO (T:=tb [] [(f,sp)]) ys1.2 (DP all_nil (all_cons hc all_nil)) ?_;intro ds st r hr;obtain⟨cl,N,d,e,E,rfl,h2,rfl⟩:=Ku hr;unfold ys1;have hT:(tb [] [(f,sp)]).i f=s_ sp:=by rw[dB,yNm,zae rfl]
 have ah:J3 (tb [] [(f,sp)]) (.clo f N)=s_ (sp,[],N):=by rw[Yi0 _ _ _ hf,hT];rfl
 have hz:(I J 0::Dr DX:List D)=(I J 0::Dr DX:List D):=rfl;simp(disch:=grind) only[push_cast,↓reduceIte,C3,Da,Ykv,ah,Al,Aj,Aq];rw[show st++[zzB (Dr cl.1++Dr cl.2),zzB (I J 0::Dr DX)]=st++[Gg cl,FW (0,DX)]from rfl,h2];simp(disch:=grind) only[push_cast,↓reduceIte,C3,C6,Da,Al,Aj,Aq,Ag,An,As,Ar,C6,FV,F6]
 by_cases he:e=0
 .subst he
  have a0:StOK (st++[Gg cl,FW (0,DX),zzB (Dr d)]):=Zi E _ (λo ho=>by
   simp only[AB,AM,zav]at ho;rcases ho with rfl|rfl|rfl
   .exact WY cl
   .rfl
   .exact MM d)
  have ac:(st++[Gg cl,FW (0,DX),zzB (Dr d)]).length=st.length+3:=zac
  have k1:st.length+1<st.length+3:=zaa
  have k2:st.length+2<st.length+3:=zaa
  have hR:∀(fr:Frame)(l:St),(O5 fr [4,6,19,20]).all (λk=>decide (k<st.length+3))=t_->restrict [4,6,19,20] (st++[Gg cl,FW (0,DX),zzB (Dr d)]).length ⟨fr,st++Gg cl::FW (0,DX)::(zzB (Dr d))::l⟩=⟨GU (Lh fr (st.length+3) [] [4,6,19,20]),st++[Gg cl,FW (0,DX),zzB (Dr d)]⟩:=λfr l h=>by
   have:=yux (keep:=[4,6,19,20]) (fr:=fr) (l:=l) a0 ac.symm (λk hk=>zat (Ad.1 h k hk));grind
  have aa:=hR;simp only[ac]at aa;simp(disch:=grind) only[push_cast,↓reduceIte,C3,Da,Hu,YId]
  refine Gn (λi:Nat=>[(4,Y (st.length+1) 0),(6,Y (st.length+2) 0),(19,Jz cl),(20,I J (i:Int))]) (λ_=>st++[Gg cl,FW (0,DX),zzB (Dr d)])
   (λi=>i<=2/\(0<i->¬cl.1=d)/\(1<i->¬cl.2=d)) (λi=>2-i) 0 ?_ ⟨zaa,λh=>absurd h zaa,λh=>absurd h zaa⟩ ?_
  .simp(disch:=first|omega|decide|(simp only[push_cast,↓Fc,↓reduceIte,C3,Dd,Db,C6,Nat.reduceSub,Nat.reduceMul,Dp,Dj,Int.reduceLE,Df,Da,Di,Dh,Int.reduceMul,Int.reduceSub,↓C5,YAs,k1,k2,zah];done)) only[push_cast,↓reduceIte,C3,↓C5,↓hR,Yef,TQ]
  rintro i ⟨hi,h0,h1⟩
  match i,hi,h0,h1 with
  |0,_,_,_=>
   have c0:=cl_0 cl
   by_cases q:cl.1=d
   .rw[show Iz cl (d,0)=(0,d) by unfold Iz OJ;rw[zae rfl,zae q]];simp(disch:=grind) only[push_cast,↓reduceIte,C3,C6,Dj,Da,↓C5,Al,Aj,Aq,Ag,An,As,Ar,C6,FV,F6,c0,q,wE,XZ,XR,qo,OU,O6 E]
   .simp(disch:=first|omega|decide|(simp only[push_cast,↓Fc,↓reduceIte,C3,Dd,Db,C6,Nat.reduceSub,Nat.reduceMul,Dp,Dj,Int.reduceLE,Df,Da,Di,Dh,Int.reduceMul,Int.reduceSub,↓C5,YAs,k1,k2,zah];done)) only[push_cast,↓reduceIte,C3,C6,Dj,Dh,↓C5,↓aa,Yef,TQ,Al,Aj,Aq,Ag,An,As,Ar,C6,FV,F6,c0,q,D5];refine EV 1 (by exact⟨zaa,λ_=>q,λh=>absurd h zaa⟩) zaa ?_;rfl
  |1,_,h0,_=>
   have c1:=cl_1 cl;have q0:=h0 zaa
   by_cases q:cl.2=d
   .rw[show Iz cl (d,0)=(1,d) by unfold Iz OJ;rw[zae rfl,zaf q0,zae q]];simp(disch:=grind) only[push_cast,↓reduceIte,C3,C6,Dj,Da,↓C5,Al,Aj,Aq,Ag,An,As,Ar,C6,FV,F6,c1,q,wE,XZ,XR,qo,OU,O6 E]
   .simp(disch:=first|omega|decide|(simp only[push_cast,↓Fc,↓reduceIte,C3,Dd,Db,C6,Nat.reduceSub,Nat.reduceMul,Dp,Dj,Int.reduceLE,Df,Da,Di,Dh,Int.reduceMul,Int.reduceSub,↓C5,YAs,k1,k2,zah];done)) only[push_cast,↓reduceIte,C3,C6,Dj,Dh,↓C5,↓aa,Yef,TQ,Al,Aj,Aq,Ag,An,As,Ar,C6,FV,F6,c1,q,D5];refine EV 2 (by exact⟨zaa,λ_=>q0,λ_=>q⟩) zaa ?_;rfl
  |2,_,h0,h1=>
   rw[show Iz cl (d,0)=(-1,d) by unfold Iz OJ;rw[zae rfl,zaf (h0 zaa),zaf (h1 zaa)]];simp(disch:=grind) only[push_cast,↓reduceIte,C3,C6,Dj,Da,↓C5,Ag,An,As,Ar,C6,FV,F6,wE,XZ,XR,qo,OU,O6 E]
 .have hv:Iz cl (d,e)=(0,DX):=zaf he;rw[hv];simp(disch:=grind) only[push_cast,↓reduceIte,C3,Da,he,FV,F6,O6 E,XZ,XR,qo,aV,OU]
def yXc(c:List Ins):([O (nz 3 (c.map Dt)) (c.map Dt) f_]:List D).all E2=t_:=by simp[E2,Jq]
def IB(c:List Ins)(v:zIL):Dig×Int:=if c.length=0 then(DQ,0)else if(FQ c).2≠0 then(DX,(FQ c).2)else(Em c v (Hd (c.length+1)),0)
def f1R(ds:List D)(st:St)(r:D×St):Prop:=∃(kc kv:Nat)(c:List Ins)(v:zIL)(lc lv:Bool),StOK st/\ds=[Y kc 0,Y kv 0]/\st[kc]?=s_ ⟨f_,1,[D9 c],lc⟩/\st[kv]?=s_ ⟨f_,1,Eo v,lv⟩/\c.length<=9223372036854775807/\Et v/\
 r=(.tup [Ds (IB c v).1,I J (IB c v).2],st)
def YKb:Jo f1R:=by rintro ds st r r' ⟨kc,kv,c,v,lc,lv,_,rfl,h1,h2,_,_,rfl⟩ ⟨ac,ad,c',v',ae,af,_,h,E,N,_,_,rfl⟩;simp only[Ab,D.ptr.injEq,zag]at h;obtain⟨rfl,rfl⟩:=h;rw[h1]at E;rw[h2]at N;simp only[Dv,Obj.mk.injEq,Ab,zag,zal,bj]at E N;obtain⟨rfl,_⟩:=E;obtain rfl:v=v':=KJ.1 (congrArg D.agg N.1);rfl
def sW:zsF:=Gf f1R
def TX(n:Nat)(d:Dig)(e:Int):Ji n (.tup [Ds d,I J e])=.tup [Ds d,I J e]:=by
 have h:Ia n (Ds d)=Ds d:=by rw[<-vW];exact yUz n [] d
 simp only[Ji,Av,Bc,h];rfl
def UM(a d:Dig):DV (s_ (zzB (Dr a))) 32 0 (Ds d)=s_ (zzB (Dr d)):=Hs 1 _ _ 32 (En _) (En _) (My (λ_=>rfl) d)
theorem ju:zIC 151 sW:=by
 refine mO (T:=tb [(18,Q3),(54,Sy),(104,rE),(56,qh)] []) ypy.2 (DP (all_cons UU (all_cons aB (all_cons Yj6 (all_cons Yuo all_nil)))) all_nil) ?_;intro ds st r hr;obtain⟨kc,kv,c,v,lc,lv,N,rfl,h1,h2,hc,hv,rfl⟩:=Ku hr
 have DT:∀l:St,(st++l)[kc]?=s_ ⟨f_,1,[O (nz 3 (c.map Dt)) (c.map Dt) f_],lc⟩:=λl=>by
  rw[Aw (Aa.1 h1).1];exact h1
 have ad:∀l:St,(st++l)[kv]?=s_ ⟨f_,1,Eo v,lv⟩:=λl=>by
  grind
 have cv:=Zm c hc;have cp:=T7;unfold ypy
 by_cases q1:c.length=0
 .rw[show IB c v=(DQ,0)from zae q1];have E:(c.length:Int)=0:=zaa
  simp(disch:=grind) only[push_cast,↓reduceIte,C3,DT,E,cp,Hu,HL,TX,O6 N,OU,UM]
 by_cases q2:(FQ c).2=0
 .rw[show IB c v=(Em c v (Hd (c.length+1)),0) by unfold IB;rw[zaf q1,zaf (by simp[q2])]];have E:¬(c.length:Int)=0:=zaa
  obtain⟨a3,_⟩:=OV q2;have cs:=yH2 ((c.length:Int)+1);rw[show Si ((c.length:Int)+1)=0 from YYN]at cs
  have cd:=ya c v (Hd ((c.length:Int)+1)) ⟨zaa,hv,by
   rw[show Hd ((c.length:Int)+1)={GH with fuel:=(c.length:Int)+1} from YYN];exact AS _⟩
  simp(disch:=grind) only[push_cast,↓reduceIte,C3,DT,ad,E,q2,cv,cs,cd,D5,JI,Mw,JG,HK hv,Gc,LO,Al,Aj,Aq,Ag,An,As,Ar,FV,F6,Hu,HL,TX,O6 N,OU,UM]
 .rw[show IB c v=(DX,(FQ c).2) by unfold IB;rw[zaf q1,zae q2]];have E:¬(c.length:Int)=0:=zaa
  simp(disch:=grind) only[push_cast,↓reduceIte,C3,DT,E,q2,cv,Aq,Hu,HL,TX,O6 N,OU,UM,aV]
def lg:=DL (α:=List Ins×(zIL)×(Dig×Dig)) (λa=>[O (nz 3 (a.1.map Dt)) (a.1.map Dt) f_,EO a.2.1,Jz a.2.2]) (λa=>a.1.length<=9223372036854775807/\Et a.2.1) (λa=>.tup [Fe (Iz a.2.2 (IB a.1 a.2.1)),I J (IB a.1 a.2.1).2])
def yS8(c:List Ins)(v:zIL)(cl:Dig×Dig)(h:c.length<=9223372036854775807/\Et v):lg [O (nz 3 (c.map Dt)) (c.map Dt) f_,EO v,Jz cl]=s_ (.tup [Fe (Iz cl (IB c v)),I J (IB c v).2]):=
 EL (λ⟨a0,a1,E⟩⟨b0,b1,N⟩h=>by simp only[Ab,D.slc.injEq,zag,Lq,KJ,pY]at h;simp[h]) (c,v,cl) h
def Ylz(c:List Ins)(v:zIL)(cl:Dig×Dig)(h:c.length<=9223372036854775807/\Et v):@wW GG (tb [] [(112,Wy 151 sW)]) nD.1.code (Du [O (nz 3 (c.map Dt)) (c.map Dt) f_,EO v,Jz cl]) [] ⟨DN nD.1.res (.tup [Fe (Iz cl (IB c v)),I J (IB c v).2])⟩:=by
 obtain⟨hc,hv⟩:=h;unfold nD;have ac:(Dr cl.1++Dr cl.2).all E2=t_:=WY cl
 have N:StOK [zzB [O (nz 3 (c.map Dt)) (c.map Dt) f_],zzB (Eo v),Gg cl,FW (0,DX)]:=by
  refine Zi (S:=[]) (λo E=>by cases E) _ (λo E=>?_);simp only[AB,AM,zav]at E;rcases E with rfl|rfl|rfl|rfl
  .exact yXc c
  .exact SK v
  .exact WY cl
  .rfl
 have aa:=Zi N [Gg cl,FW (0,DX)] (λo E=>by
  simp only[AB,AM,zav]at E;rcases E with rfl|rfl
  .exact WY cl
  .rfl)
 have hj:Wy 151 sW [Jz cl,.clo 151 [Y 0 0,Y 1 0]] [zzB [O (nz 3 (c.map Dt)) (c.map Dt) f_],zzB (Eo v),Gg cl,FW (0,DX)]=s_ (.tup [Fe (Iz cl (IB c v)),I J (IB c v).2],[zzB [O (nz 3 (c.map Dt)) (c.map Dt) f_],zzB (Eo v),Gg cl,FW (0,DX)]):=
  NM (yN4 _ _) ⟨cl,[Y 0 0,Y 1 0],(IB c v).1,(IB c v).2,N,rfl,NM YKb ⟨0,1,c,v,f_,f_,aa,rfl,rfl,rfl,hc,hv,rfl⟩,rfl⟩
 have sv:=XZ (0,DX);have lv:=XR;simp only[Gg,FW,Fe]at hj sv lv
 push_cast(disch:=lia)[FY,Ykv,Yzi,hj,Fe,sv,lv]
def Yr4:zCC 110 lg:=
 EM (T:=tb [] [(112,Wy 151 sW)]) nD.2 (DP all_nil (all_cons (yXb _ zab _ ju) all_nil)) (λa h=>Ylz a.1 a.2.1 a.2.2 h)
theorem YDf(v:zIL)(b:Int)(s:Sta)(x:Ins):(Fx v b s x).stack.length<=s.stack.length+1:=by
 have h:∀o:Out,(Gv (DG s) o).stack.length<=s.stack.length+1:=by
  intro o
  cases o with
  |err e=>exact Nat.le_succ _
  |set p t c=>exact Nat.le_succ _
  |pop k push pc=>
   show(s.stack.take (s.stack.length-k)++push.toList).length<=_
   grind
 unfold Fx;grind
def Yc6(c:List Ins)(v:zIL)(o:Opn):(Nb c v o).top.length<=o.top.length+1:=by
 unfold Nb
 split
 .exact YDf v o.depth (Ga o) _
 .simp[QF]
def Hc(c:List Ins)(v:zIL)(b:Dig)(o:Opn):Dig×Int:=if b=DQ then(b,0)else if IA c v o≠b then(DX,390)else if o.status≠0 then(DQ,0)else(IA c v (Nb c v o),MI c o)
def s1R(ds:List D)(st:St)(r:D×St):Prop:=∃(kb kc kv ko:Nat)(b:Dig)(c:List Ins)(v:zIL)(o:Opn)(lb lc lv lo:Bool),StOK st/\ds=[Y kb 0,Y kc 0,Y kv 0,Y ko 0]/\st[kb]?=s_ ⟨f_,1,Dr b,lb⟩/\st[kc]?=s_ ⟨f_,1,[D9 c],lc⟩/\st[kv]?=s_ ⟨f_,1,Eo v,lv⟩/\st[ko]?=s_ ⟨f_,1,FF o,lo⟩/\c.length<=4294967296/\Et v/\o.top.length<=4294967295/\
 r=(.tup [Ds (Hc c v b o).1,I J (Hc c v b o).2],st)
def YGr:Jo s1R:=by rintro ds st r r' ⟨kb,kc,kv,ko,b,c,v,o,lb,lc,lv,lo,_,rfl,h0,h1,h2,h3,_,_,_,rfl⟩ ⟨ah,a0,a1,a2,b',c',v',o',a3,a4,a5,a6,_,h,E,N,aa,ab,_,_,_,rfl⟩;simp only[Ab,D.ptr.injEq,zag]at h;obtain⟨rfl,rfl,rfl,rfl⟩:=h;rw[h0]at E;rw[h1]at N;rw[h2]at aa;rw[h3]at ab;simp only[Dv,Obj.mk.injEq,Ab,zag,zal,bj,Ng]at E N aa ab;obtain⟨rfl,_⟩:=E;obtain⟨rfl,_⟩:=N;obtain rfl:v=v':=KJ.1 (congrArg D.agg aa.1);obtain rfl:o=o':=TY.1 (congrArg D.agg ab.1);rfl
def Yw6:zsF:=Gf s1R
def sg(lent:Bool)(d:Dig):DB (s_ ⟨f_,1,Dr d,lent⟩) 32 t_ 0=s_ (Ds d):=Is 1 lent _ 32 (En d)
def Ny(lent:Bool)(o:Opn):DB (s_ ⟨f_,1,FF o,lent⟩) 38 t_ 0=s_ (Ew o):=by rw[Ew,LM];exact Xt ..
def Oh(lent:Bool)(o:Opn):DB (s_ ⟨f_,1,FF o,lent⟩) 1 f_ 2=s_ (I J o.status):=by rw[LM];exact Ygl ..
def ON(o:Opn):DV (s_ (zzB (Fo 0 0 0 0 (O 0 [] t_) 0 DX))) 38 0 (Ew o)=s_ (zzB (FF o)):=by rw[Ew,LM];exact aO ..
theorem jt:zIC 113 Yw6:=by
 refine mO (T:=tb [(18,Q3),(73,bE),(114,xI)] []) yrw.2 (DP (all_cons UU (all_cons Yup (all_cons YCi all_nil))) all_nil) ?_;intro ds st r hr;obtain⟨kb,kc,kv,ko,b,c,v,o,lb,lc,lv,lo,N,rfl,h0,h1,h2,h3,hc,hv,a7,rfl⟩:=Ku hr
 have Gk:∀l:St,(st++l)[kb]?=s_ ⟨f_,1,Dr b,lb⟩:=λl=>by
  grind
 have DT:∀l:St,(st++l)[kc]?=s_ ⟨f_,1,[O (nz 3 (c.map Dt)) (c.map Dt) f_],lc⟩:=λl=>by
  rw[Aw (Aa.1 h1).1];exact h1
 have ab:∀l:St,(st++l)[kv]?=s_ ⟨f_,1,Eo v,lv⟩:=λl=>by
  grind
 have ac:∀l:St,(st++l)[ko]?=s_ ⟨f_,1,FF o,lo⟩:=λl=>by
  grind
 have cp:=T7;have cc:=xZ c v o ⟨hc,hv,zaa⟩;have co:=Ybu c v o ⟨hc,hv⟩;have a8:=Yc6 c v o;have a0:=xZ c v (Nb c v o) ⟨hc,hv,zaa⟩;unfold yrw
 by_cases E:b=DQ
 .rw[show Hc c v b o=(b,0)from zae E];simp(disch:=grind) only[push_cast,↓reduceIte,C3,Gk,sg,E,cp,Hu,HL,TX,O6 N,OU,UM]
 by_cases q2:IA c v o=b
 .by_cases q3:o.status=0
  .rw[show Hc c v b o=(IA c v (Nb c v o),MI c o) by unfold Hc;rw[zaf E,zaf (by simp[q2]),zaf (by simp[q3])]];simp(disch:=grind) only[push_cast,↓reduceIte,C3,Gk,DT,ab,ac,sg,E,q2,q3,cp,cc,a0,co,HK hv,Gc,G2,Lo,Oi,Ny,Oh,ON,TO,LN,Al,Aj,Aq,Ag,An,As,Ar,FV,F6,Hu,HL,TX,O6 N,OU,UM]
  .rw[show Hc c v b o=(DQ,0) by unfold Hc;rw[zaf E,zaf (by simp[q2]),zae q3]];simp(disch:=grind) only[push_cast,↓reduceIte,C3,Gk,DT,ab,ac,sg,E,q2,q3,cp,cc,HK hv,Gc,Lo,Ny,Oh,Ar,Hu,HL,TX,O6 N,OU,UM]
 .rw[show Hc c v b o=(DX,390) by unfold Hc;rw[zaf E,zae q2]];simp(disch:=grind) only[push_cast,↓reduceIte,C3,Gk,DT,ab,ac,sg,E,q2,cp,cc,HK hv,Gc,Lo,Ny,Hu,HL,TX,O6 N,OU,UM,aV]
def qZ:=DL (α:=List Ins×(zIL)×Dig×(Dig×Dig)×Opn) (λa=>[O (nz 3 (a.1.map Dt)) (a.1.map Dt) f_,EO a.2.1,Ds a.2.2.1,Jz a.2.2.2.1,Ew a.2.2.2.2]) (λa=>a.1.length<=4294967296/\Et a.2.1/\a.2.2.2.2.top.length<=4294967295) (λa=>.tup [Fe (Iz a.2.2.2.1 (Hc a.1 a.2.1 a.2.2.1 a.2.2.2.2)),I J (Hc a.1 a.2.1 a.2.2.1 a.2.2.2.2).2])
def Yb5(c:List Ins)(v:zIL)(b:Dig)(cl:Dig×Dig)(o:Opn)(h:c.length<=4294967296/\Et v/\o.top.length<=4294967295):qZ [O (nz 3 (c.map Dt)) (c.map Dt) f_,EO v,Ds b,Jz cl,Ew o]=s_ (.tup [Fe (Iz cl (Hc c v b o)),I J (Hc c v b o).2]):=
 EL (λ⟨a0,a1,E,N,a4⟩⟨b0,b1,b2,b3,b4⟩h=>by simp only[Ab,D.slc.injEq,NG,zag,Lq,TY,KJ,pY]at h;simp[h]) (c,v,b,cl,o) h
def Vc:Tbl:=tb [] [(112,Wy 113 Yw6)]
def Yvz(c:List Ins)(v:zIL)(b:Dig)(cl:Dig×Dig)(o:Opn)(h:c.length<=4294967296/\Et v/\o.top.length<=4294967295):@wW GG Vc np.1.code (Du [O (nz 3 (c.map Dt)) (c.map Dt) f_,EO v,Ds b,Jz cl,Ew o]) [] ⟨DN np.1.res (.tup [Fe (Iz cl (Hc c v b o)),I J (Hc c v b o).2])⟩:=by
 obtain⟨hc,hv,ab⟩:=h;unfold np
 have ac:(FF o).all E2=t_:=by
  rw[LM];simp only[Fo,AQ,MM];simp[E2,EK,Jq]
 have N:StOK [zzB [O (nz 3 (c.map Dt)) (c.map Dt) f_],zzB (Eo v),zzB (Dr b),Gg cl,zzB (FF o),FW (0,DX)]:=by
  refine Zi (S:=[]) (λo E=>by cases E) _ (λx E=>?_);simp only[AB,AM,zav]at E;rcases E with rfl|rfl|rfl|rfl|rfl|rfl
  .exact yXc c
  .exact SK v
  .exact MM b
  .exact WY cl
  .exact ac
  .rfl
 have aa:=Zi N [Gg cl,FW (0,DX)] (λo E=>by
  simp only[AB,AM,zav]at E;rcases E with rfl|rfl
  .exact WY cl
  .rfl)
 have hj:Wy 113 Yw6 [Jz cl,.clo 113 [Y 2 0,Y 0 0,Y 1 0,Y 4 0]] [zzB [O (nz 3 (c.map Dt)) (c.map Dt) f_],zzB (Eo v),zzB (Dr b),Gg cl,zzB (FF o),FW (0,DX)]=s_ (.tup [Fe (Iz cl (Hc c v b o)),I J (Hc c v b o).2],[zzB [O (nz 3 (c.map Dt)) (c.map Dt) f_],zzB (Eo v),zzB (Dr b),Gg cl,zzB (FF o),FW (0,DX)]):=
  NM (yN4 _ _) ⟨cl,[Y 2 0,Y 0 0,Y 1 0,Y 4 0],(Hc c v b o).1,(Hc c v b o).2,N,rfl,NM YGr ⟨2,0,1,4,b,c,v,o,f_,f_,f_,f_,aa,rfl,rfl,rfl,rfl,rfl,hc,hv,ab,rfl⟩,rfl⟩
 have sv:=XZ (0,DX);have lv:=XR;simp only[Gg,FW,Fe]at hj sv lv
 push_cast(disch:=lia)[Vc,FY,Ykv,P3,Yzi,hj,Fe,sv,lv]
def YCt:zCC 75 qZ:=
 EM (T:=Vc) np.2 (DP all_nil (all_cons (yXb _ zab _ jt) all_nil)) (λa h=>Yvz a.1 a.2.1 a.2.2.1 a.2.2.2.1 a.2.2.2.2 h)
theorem Yll(c:List Ins)(v:zIL)(o o':Opn)(E:o.pc=o'.pc)(N:o.fuel=o'.fuel)(h3:o.status=o'.status)(h4:o.clause=o'.clause)(h5:o.depth+o.top.length=o'.depth+o'.top.length)(h6:I1 o.rest o.top=I1 o'.rest o'.top):NF c v o=NF c v o':=by unfold NF;grind
structure OpenOf (s:Sta) (o:Opn):Prop where
 pc:o.pc=s.pc
 fuel:o.fuel=s.fuel
 status:o.status=s.status
 clause:o.clause=s.clause
 d0:0<=o.depth
 d1:o.depth.toNat<=s.stack.length
 top:o.top=s.stack.drop o.depth.toNat
 rest:o.rest=I1 DX (s.stack.take o.depth.toNat)
def U1(s:Sta)(n:Int):OpenOf s (Fl s n):=⟨rfl,rfl,rfl,rfl,by simp[Fl],by simpa[Fl]using xH s n,by simp[Fl],by simp[Fl]⟩
variable{o:Opn}
def yTr{o':Opn}(h:OpenOf s o)(E:OpenOf s o'):NF c v o=NF c v o':=by
 refine Yll c v o o' (h.pc.trans E.pc.symm) (h.fuel.trans E.fuel.symm) (h.status.trans E.status.symm) (h.clause.trans E.clause.symm) ?_ ?_
 .have N:=h.d1;have h2:=E.d1;have h3:=h.d0;have h4:=E.d0;rw[h.top,E.top,AL,AL];omega
 .rw[h.rest,E.rest,h.top,E.top,<-yNc,<-yNc,Bl,Bl]
def wV(h:OpenOf s o)(hl:s.stack.length<=64):IA c v o=Em c v s:=by have E:=h.d0;have N:=h.d1;rw[show IA c v o=NF c v o from YYN];exact yTr h (U1 s s.stack.length)
theorem Yny(h:OpenOf s o)(hl:s.stack.length<=64):HN c (Ga o) o.depth=HN c s 0:=by
 have E:=h.d0;have N:=h.d1;have hlen:o.top.length=s.stack.length-o.depth.toNat:=by rw[h.top,AL]
 have hb:Io c (Ga o) o.depth↔Io c s 0:=by
  unfold Io Ga;simp only[h.pc,h.fuel,h.clause,hlen];omega
 unfold HN;rw[show(Ga o).status=s.status from h.status];grind
def Yg8(c:List Ins)(h:OpenOf s o):HU c (Ga o)=HU c s:=by unfold HU;rw[show(Ga o).pc=s.pc from h.pc]
theorem Ys8{l:List Int}{i:Nat}(h:k+i<l.length):Ja (l.drop k) i=Ja l i:=by unfold Ja Ez;grind
def eS(h:OpenOf s o)(E:o.depth=0):Ga o=s:=by
 obtain⟨a1,N,a3,a4,a5⟩:=s;have e:o.top=a5:=by rw[h.top,E];rfl
 unfold Ga;rw[show o.pc=a1 from h.pc,show o.fuel=N from h.fuel,show o.status=a3 from h.status,show o.clause=a4 from h.clause,e]
theorem YG5(h:OpenOf s o)(hx:1<=x.op/\x.op<=16)(hn:o.depth=0\/GQ x.op<=o.top.length):GP v o.depth (DG (Ga o)) x=GP v 0 (DG s) x:=by
 by_cases h0:o.depth=0
 .rw[eS h h0,h0]
 replace hn:GQ x.op<=o.top.length:=zaa
 have h1:=h.d0;have h2:=h.d1;have hlen:o.top.length=s.stack.length-o.depth.toNat:=by rw[h.top,AL]
 have e1:GP v o.depth (DG (Ga o)) x=Ee v o.depth (DG (Ga o)) x:=zaf (zaa:¬(o.top.length:Int)<GQ x.op);have e2:GP v 0 (DG s) x=Ee v 0 (DG s) x:=zaf (zaa:¬(s.stack.length:Int)<GQ x.op);rw[e1,e2]
 have hle:((64:Int)<=o.depth+((DG (Ga o)).stack.length:Nat))=((64:Int)<=0+((DG s).stack.length:Nat)):=by
  show((64:Int)<=o.depth+(o.top.length:Nat))=((64:Int)<=0+(s.stack.length:Nat))
  grind
 have t0:1<=GQ x.op->Dw (DG (Ga o)) 0=Dw (DG s) 0:=λq=>by
  show Ja o.top 0=Ja s.stack 0
  rw[h.top];exact Ys8 zaa
 have t1:2<=GQ x.op->Dw (DG (Ga o)) 1=Dw (DG s) 1:=λq=>by
  show Ja o.top 1=Ja s.stack 1
  rw[h.top];exact Ys8 zaa
 have hp:(DG (Ga o)).pc=(DG s).pc:=h.pc;have hs:(DG (Ga o)).status=(DG s).status:=h.status;have hc:(DG (Ga o)).clause=(DG s).clause:=h.clause;unfold Ee
 by_cases o1:x.op=1
 .grind
 rw[zaf o1,zaf o1]
 by_cases o2:x.op=2
 .grind
 rw[zaf o2,zaf o2]
 by_cases E:x.op=12
 .rw[zae E,zae E,t0 (by rw[E];decide)]
 rw[zaf E,zaf E]
 by_cases N:x.op=13
 .rw[zae N,zae N,t0 (by rw[N];decide)]
 rw[zaf N,zaf N]
 by_cases o5:x.op=14
 .grind
 rw[zaf o5,zaf o5]
 by_cases o6:x.op=15
 .grind
 rw[zaf o6,zaf o6]
 by_cases o7:x.op=16
 .grind
 rw[zaf o7,zaf o7];have ah:GQ x.op=2:=by unfold GQ;rw[YYN,zae zaa]
 grind
theorem Yn9(hx:1<=x.op/\x.op<=16)(h:GP v b s x=.pop k push pc):(k:Int)<=GQ x.op/\GQ x.op<=s.stack.length:=by
 have N:=Yif h;refine⟨?_,zaa⟩;unfold GP at h;rw[zaf N]at h;unfold Ee at h;have hc:x.op=1\/x.op=2\/x.op=12\/x.op=13\/x.op=14\/x.op=15\/x.op=16\/(3<=x.op/\x.op<=11):=zaa
 have E:GQ x.op=if x.op=12\/x.op=13\/x.op=15 then 1 else if 3<=x.op/\x.op<=11 then 2 else 0:=rfl
 split at h
 .grind
 grind
theorem YMs(h:OpenOf s o)(N:1<=x.op/\x.op<=16)(hn:o.fuel=0\/o.depth=0\/GQ x.op<=o.top.length):OpenOf (Fx v 0 s x) (LZ (Fx v o.depth (Ga o) x) o):=by
 unfold Fx;rw[show(Ga o).fuel=s.fuel from h.fuel]
 by_cases hu:s.fuel=0
 .rw[zae hu,zae hu];exact⟨h.pc,rfl,rfl,h.clause,h.d0,h.d1,h.top,h.rest⟩
 rw[zaf hu,zaf hu];have aa:o.depth=0\/GQ x.op<=o.top.length:=by have:=h.fuel;omega
 have ho:=YG5 (v:=v) h N aa;rw[ho];have h1:=h.d0;have h2:=h.d1;have hlen:o.top.length=s.stack.length-o.depth.toNat:=by rw[h.top,AL]
 have E:o.fuel-1=s.fuel-1:=by rw[h.fuel]
 cases hE:GP v 0 (DG s) x with
 |err e=>exact⟨h.pc,E,rfl,h.clause,h.d0,h.d1,h.top,h.rest⟩
 |set p t c=>exact⟨rfl,E,rfl,rfl,h.d0,h.d1,h.top,h.rest⟩
 |pop k push pc=>
  obtain⟨k1,k2⟩:=Yn9 N hE;have k2:GQ x.op<=(s.stack.length:Int):=k2;have hk:o.depth.toNat<=s.stack.length-k:=zaa
  refine⟨?_,E,h.status,h.clause,h.d0,?_,?_,?_⟩
  .show pc.getD (o.pc+1)=pc.getD (s.pc+1)
   rw[h.pc]
  .show o.depth.toNat<=(s.stack.take (s.stack.length-k)++push.toList).length
   grind
  .show o.top.take (o.top.length-k)++push.toList=(s.stack.take (s.stack.length-k)++push.toList).drop o.depth.toNat
   rw[List.drop_append_of_le_length (by rw[AJ];omega),List.drop_take,hlen,h.top]
   congr 2
   omega
  .show o.rest=I1 DX ((s.stack.take (s.stack.length-k)++push.toList).take o.depth.toNat)
   rw[Cr (by rw[AJ];omega),List.take_take,BU hk,h.rest]
theorem Ywv(h:OpenOf s o)(hl:s.stack.length<=64)(N:HN c s 0=0)(E:¬Th c o):MI c o=0/\IA c v (Nb c v o)=Em c v (KF c v s):=by
 have ac:=Yny (c:=c) h hl;have e0:MI c o=0:=by unfold MI;rw[zae (by rw[ac,N]),zaf E]
 refine⟨e0,?_⟩;rw[show Nb c v o=LZ (Fx v o.depth (Ga o) (HU c (Ga o))) o from zae e0,show KF c v s=Fx v 0 s (HU c s)from zae N,Yg8 c h]
 have ae:(FQ c).2=0:=by
  unfold HN at N;omega
 have aa:¬Io c s 0:=by
  intro q;unfold HN at N;grind
 have af:=(OV ae).2.2.1;unfold Io at aa;have hx:=yHl (xV af (j:=s.pc.toNat) zaa);have hx:1<=(HU c s).op/\(HU c s).op<=16:=hx;have a1:=h.fuel;have a2:=h.d0
 have ah:=YMs (v:=v) (x:=HU c s) h hx (by
  unfold Th at E;rw[Yg8 c h]at E;omega)
 have a3:=h.d1;have e1:(LZ (Fx v o.depth (Ga o) (HU c s)) o).depth=o.depth:=rfl;have:IA c v (LZ (Fx v o.depth (Ga o) (HU c s)) o)=NF c v (LZ (Fx v o.depth (Ga o) (HU c s)) o):=zaf (by rw[e1];omega);rw[this];exact yTr ah (U1 _ _)
def kI(d:Der):JE (EX d)=t_:=by simp only[EX,DH,JE,AQ,Bo,SK];simp[E2,D9,Fy,Jq]
def SF(d:Der):keys (EX d)=[]:=SU (kI d)
variable{d:Der}
def Sz(hv:Et d.env):DV (s_ (zzB (DH Ei Iy 0 0 Ei))) 21 0 (EX d)=s_ (zzB (DH (D9 d.code) d.env d.am d.er (Fy d.lv))):=pg pA hv Ei _ rfl 0 0 _ _ Ei _ rfl
def P6(hv:Et d.env)(lent:Bool):DB (s_ ⟨f_,1,DH (D9 d.code) d.env d.am d.er (Fy d.lv),lent⟩) 21 t_ 0=s_ (EX d):=Yt2 hv lent _ _ _ _
def TM(hv:Et d.env)(lent:Bool):DB (s_ ⟨f_,1,DH (D9 d.code) d.env d.am d.er (Fy d.lv),lent⟩) 1 f_ 20=s_ (Fy d.lv):=wT hv lent _ _ _ _
def Sd(v:zIL)(d:Der):Prop:=∃c:List Ins,d=Hw c v/\(FQ c).2=0/\c.length<=60/\0<d.lv.length
def QHo(ds:List D)(r:D):Prop:=∀s v,ds=[.str s,EO v]->∃(d:Der)(b:Bool),r=.tup [EX d,V b]/\Et d.env/\(b=t_->Sd v d)
abbrev THo:Tbl:=tb [(14,zG),(15,Vk),(16,zK),(17,oZ)] []
theorem cA(s:zLB)(v:zIL)(hv:Et v):@wW GG THo Z7.1.code (Du [.str s,EO v]) [] ⟨FP Z7.1.res (QHo [.str s,EO v])⟩:=by
 have fin:∀(d:Der)(b:Bool),Et d.env->(b=t_->Sd v d)->QHo [.str s,EO v] (.tup [EX d,V b]):=λd b h1 h2 s' v' e=>by
  simp only[Ab,KJ,zag]at e;grind
 have bad:=fin QH f_ rfl (λh=>by cases h);unfold Z7
 by_cases hs:s.length<=400
 case neg=>
  have E:(400:Int)<s.length:=zaa
  simp(disch:=first|omega|decide) only[push_cast,↓reduceIte,C3,FY,Mq,E,Wb,z0,Xv,Wv];exact bad
 have E:¬(400:Int)<s.length:=zaa
 obtain⟨t,a,e,h1,h2⟩:=g_pa s hs;have bt:DV (s_ (GL [] 0 (O 0 [] t_))) 3 0 (Kv t)=s_ (GL t.name t.kind (O (nz 9 (t.cls.map Ea)) (t.cls.map Ea) f_)):=rfl;have lt:∀L,DB (s_ (GL t.name t.kind L)) 3 t_ 0=s_ (U [.str t.name,I J t.kind,L]):=λ_=>rfl;have et:D.agg [.str t.name,I J t.kind,O (nz 9 (t.cls.map Ea)) (t.cls.map Ea) f_]=Kv t:=rfl
 by_cases he:e=0
 case neg=>
  simp(disch:=first|omega|decide) only[push_cast,↓reduceIte,C3,C6,FY,Mq,E,Wb,z0,Xv,Wv,h1,UT,JN,bt,he];exact bad
 have ht:=h2 he;obtain⟨a1,b1,h3⟩:=iu ht
 by_cases ab:b1=0
 case neg=>
  simp(disch:=first|omega|decide) only[push_cast,↓reduceIte,C3,C6,FY,Mq,E,Wb,z0,Xv,Wv,h1,UT,JN,bt,he,zai,lt,et,Sl,pW,h3,ab,zah];exact bad
 obtain⟨dc,b2,h4,h5⟩:=g_cm ht
 by_cases ac:b2=0
 case neg=>
  simp(disch:=first|omega|decide) only[push_cast,↓reduceIte,C3,C6,FY,Mq,E,Wb,z0,Xv,Wv,h1,UT,JN,bt,he,zai,lt,et,Sl,pW,h3,ab,h4,ac,zah];exact bad
 obtain⟨c,rfl,hc⟩:=h5 ac;have hlen:∀st,E0 st f_ (D9 c)=s_ (I J (c.length:Int)):=λst=>by simp[D9,E0,Kk,FB]
 by_cases a4:c.length<=60
 case neg=>
  have aa:(60:Int)<c.length:=zaa
  simp(disch:=first|omega|decide) only[push_cast,↓reduceIte,C3,C6,FY,Mq,E,Wb,z0,Xv,Wv,h1,UT,JN,bt,he,zai,lt,et,Sl,pW,h3,ab,h4,ac,hlen,aa];exact bad
 have aa:¬(60:Int)<c.length:=zaa
 have h6:=Yrr c v ⟨zaa,hv⟩;have h6:oZ [D9 c,EO v]=_:=h6;have N:Et (Hw c v).env:=by unfold Hw;rw[zae hc];exact hv
 have sd:DV (s_ (zzB (DH Ei Iy 0 0 Ei))) 21 0 (EX (Hw c v))=s_ (zzB (DH (D9 (Hw c v).code) (Hw c v).env (Hw c v).am (Hw c v).er (Fy (Hw c v).lv))):=pg pA N Ei _ rfl 0 0 _ _ Ei _ rfl;have a6:∀st,D2 st (D9 c)=s_ (D9 c):=λst=>by simp only[D9,D2,DO,Jq]
 have a7:keys (D9 c)=[]:=rfl;generalize hd:Hw c v=d at h6 N sd;have a8:hk (Fy d.lv)=[]:=rfl;have a9:∀st,E0 st f_ (Fy d.lv)=s_ (I J (d.lv.length:Int)):=λst=>by simp[Fy,E0,Kk,FB]
 simp(disch:=first|omega|decide) only[push_cast,↓Fc,↓reduceIte,C3,C6,Dp,FY,Mq,E,h1,UT,JN,bt,he,zai,lt,et,Sl,pW,h3,ab,h4,ac,hlen,aa,a6,a7,HK hv,Gc,G2,h6,sd,hc,P6 N,TM N,a9,P5,a8];exact fin d _ N λh=>⟨c,hd.symm,hc,a4,by simpa using h⟩
abbrev zJ:zsP:=Ii THo Z7.1 QHo
def iB(s:zLB)(hv:Et v):∃(d:Der)(b:Bool),zJ [.str s,EO v]=s_ (.tup [EX d,V b])/\Et d.env/\(b=t_->Sd v d):=by obtain⟨_,h,q⟩:=I2 (cA s v hv);obtain⟨d,b,rfl,E,N⟩:=q s v rfl;exact⟨d,b,h,E,N⟩
def jm:CP 5 zJ:=I0 (T:=THo) _ Z7.2 (DP (all_cons jk (all_cons YKt (all_cons jo (all_cons jz all_nil)))) all_nil)
def ZF:=DL (α:=(Int×Dig)×Int×Dig×List Dig) (λa=>[U (I J (Dl a.1)::Dr (Dn a.1)),I J a.2.1,Ds a.2.2.1,O (nz 32 (a.2.2.2.map Ds)) (a.2.2.2.map Ds) f_]) (λa=>-9223372036854775808<=a.2.1/\a.2.1<9223372036854775808) (λa=>V (Jw a.1 a.2.1 a.2.2.1 a.2.2.2))
def yu9(c:Int×Dig)(i:Int)(x:Dig)(p:List Dig)(h:-9223372036854775808<=i/\i<9223372036854775808):ZF [U (I J (Dl c)::Dr (Dn c)),I J i,Ds x,O (nz 32 (p.map Ds)) (p.map Ds) f_]=s_ (V (Jw c i x p)):=
 EL (λ⟨a0,a1,E,N⟩⟨b0,b1,b2,b3⟩h=>by simp only[Ab,D.slc.injEq,D.int.injEq,D.agg.injEq,MK,NG,Ng,zal,zag]at h;simp[h,CJ]) (c,i,x,p) h
theorem yPx(c:Int×Dig)(i:Int)(x:Dig)(p:List Dig)(h:-9223372036854775808<=i/\i<9223372036854775808):@wW GG (tb [(38,Rj),(79,Uq)] []) nZ.1.code (Du [U (I J (Dl c)::Dr (Dn c)),I J i,Ds x,O (nz 32 (p.map Ds)) (p.map Ds) f_]) [] ⟨DN nZ.1.res (V (Jw c i x p))⟩:=by
 obtain⟨n,r⟩:=c;unfold nZ;simp(disch:=omega) only[push_cast,↓reduceIte,C3,Ro];refine Fm (λN=>?_) (λN=>?_)
 .have e:Jw (n,r) i x p=f_:=by unfold Jw;simp;omega
  simp(disch:=omega) only[push_cast,↓reduceIte,C3,N,e]
 .have hd:0<=n/\n<=65536:=by
   by_cases hb:n<0\/65536<n
   .rw[Zo hb]at N;omega
   .omega
  obtain⟨e1,e2,e3⟩:=Qg hd.1 hd.2;simp(disch:=omega) only[push_cast,↓reduceIte,C3,N];refine Fm (λh2=>?_) (λh2=>?_)
  .have e:Jw (n,r) i x p=f_:=by unfold Jw;simp;omega
   simp(disch:=omega) only[push_cast,↓reduceIte,C3,h2,e]
  .simp(disch:=omega) only[push_cast,↓reduceIte,C3,h2,vG];refine Fm (λh3=>?_) (λh3=>?_)
   .have e:Jw (n,r) i x p=f_:=by unfold Jw;simp;omega
    simp(disch:=omega) only[push_cast,↓reduceIte,C3,h3,e]
   .simp(disch:=omega) only[push_cast,↓reduceIte,C3,h3];refine Fm (λh4=>?_) (λh4=>?_)
    .have e:Jw (n,r) i x p=decide (ME i.toNat x p=r):=by
      unfold Jw;grind
     rw[e];simp(disch:=omega) only[push_cast,↓reduceIte,C3,h4];have hp:p.length<=16:=zaa
     have ah:(2:Int)^(Ep n).toNat<=2^16:=YO zaa
     refine Gn (λq:Nat×Dig=>[(1,I J i),(3,O (nz 32 (p.map Ds)) (p.map Ds) f_),(4,Y 0 0),(6,Y 1 0),(33,I J (p.length:Int)),(34,I J (q.1:Int))])
      (λq=>[zzB (I J n::Dr r),zzB (Dr q.2)])
      (λq=>q.1<=p.length/\ME i.toNat x p=ME (i.toNat/2^q.1) q.2 (p.drop q.1)) (λq=>p.length-q.1) (0,x) (by push_cast [h4]<;>rfl) ⟨AS _,zac⟩ ?_
     rintro⟨j,y⟩ ⟨h5,E⟩;simp only at h5 E
     push_cast
     refine Fm (λh7=>?_) (λh7=>?_)
     .rw[yOq p j zaa,ME,Nat.div_div_eq_div_mul,<-CG]at E;have h8:=YP j;have h9:0<=i/2^j:=BD zaa zaa;have a0:i/2^j<=i:=B1 _ zaa
      have a1:(i/2^j)%2=((i.toNat/2^j%2:Nat):Int):=by
       grind
      simp(disch:=omega) only[push_cast,↓reduceIte,C3,j3,YDc];refine Fm (λad=>?_) (λad=>?_)
      .rw[zae (zaa:i.toNat/2^j%2=0)]at E;simp(disch:=omega) only[push_cast,↓reduceIte,C3,Dd,Db,C6,Mr,KL,D5];refine EV (j+1,HS y (p.getD j d_)) ⟨by show j+1<=_;omega,E⟩ (by show p.length-(j+1)<p.length-j;omega) ?_;rfl
      .rw[zaf (zaa:¬i.toNat/2^j%2=0)]at E;simp(disch:=omega) only[push_cast,↓reduceIte,C3,Dd,Db,C6,Mr,KL,D5];refine EV (j+1,HS (p.getD j d_) y) ⟨by show j+1<=_;omega,E⟩ (by show p.length-(j+1)<p.length-j;omega) ?_;rfl
     .rw[List.drop_of_length_le zaa]at E;have E:ME i.toNat x p=y:=E;simp(disch:=omega) only[push_cast,↓reduceIte,C3,C6,E]
    .have e:Jw (n,r) i x p=f_:=by
      unfold Jw;grind
     simp(disch:=omega) only[push_cast,↓reduceIte,h4,e]
def yTb:zCC 74 ZF:=
 EM nZ.2 (DP (all_cons Wq (all_cons Zb all_nil)) all_nil) (λa h=>yPx a.1 a.2.1 a.2.2.1 a.2.2.2 h)
def KH(l:List Dig)(level k:Int):Bool:=decide ((l.length:Int)<=65536/\0<=level/\level<=16/\0<=k/\k<2^(16-level).toNat)
def Ns(l:List Dig)(level k:Int):Dig:=if KH l level k then FX l level.toNat k else DX
def Fg(l:List Dig):Int×Dig:=if(l.length:Int)<=65536 then(l.length,FX l (Ep l.length).toNat 0)else Yim
def Jj(l:List Dig):Int:=if(l.length:Int)<=65536 then 0 else 2
def I4(l:List Dig)(i:Int):List Dig:=if(l.length:Int)<=65536/\0<=i/\i<2^(Ep l.length).toNat then Ic l i (Ep l.length).toNat else []
def Pg(l:List Dig)(i:Int):Int:=if 65536<(l.length:Int)then 2 else if 0<=i/\i<2^(Ep l.length).toNat then 0 else 1
theorem mR(l:List Dig)(i:Int):∀n,(Ic l i n).length=n
 |0=>rfl
 |n+1=>by simp[Ic,mR l i n]
def Kz(r:Bool)(key:Nat)(row:List Dig):D:=if r then .row key row.length 0 row.length else O (nz 32 (row.map Ds)) (row.map Ds) f_
def Je(r:Bool)(row:List Dig):St:=if r then [⟨t_,32,row.map Ds,f_⟩]else []
theorem oT(key:Nat)(row:List Dig):Kz f_ key row=O (nz 32 (row.map Ds)) (row.map Ds) f_:=rfl
theorem XV(key:Nat)(row:List Dig):Kz t_ key row=.row key row.length 0 row.length:=rfl
theorem XW(row:List Dig):Je f_ row=[]:=rfl
theorem Sn(row:List Dig):Je t_ row=[⟨t_,32,row.map Ds,f_⟩]:=rfl
def qW:zsF:=H2 (α:=Int×Int×Dig×Dig×List Dig×Bool×Int×Dig)
 (λ⟨lv,k,d,pz,row,r,j,pad⟩=>([I J j,Kz r 4 row,Ds pad,Y 0 0,Y 1 0,Y 2 0],[zzB [I J lv],zzB [I J k],zzB (Dr d),zzB (Dr pz)]++Je r row))
 (λ⟨_,k,_,_,_,_,_,_⟩=>0<=k)
 (λ⟨lv,k,d,pz,row,r,j,pad⟩=>(.tup [],[zzB [I J lv],zzB [I J k],zzB (Dr (if j=lv then F4 row k pad else d)),zzB (Dr pz)]++Je r row))
def yS4(lv k:Int)(d N:Dig)(row:List Dig)(j:Int)(E:Dig)(h:0<=k):
  qW [I J j,O (nz 32 (row.map Ds)) (row.map Ds) f_,Ds E,Y 0 0,Y 1 0,Y 2 0] [zzB [I J lv],zzB [I J k],zzB (Dr d),zzB (Dr N)]=
   s_ (.tup [],[zzB [I J lv],zzB [I J k],zzB (Dr (if j=lv then F4 row k E else d)),zzB (Dr N)]):=by
 refine OS ?_ (lv,k,d,N,row,f_,j,E) h rfl;rintro⟨lv,k,d,N,row,r,j,E⟩ ⟨ad,k',d',ae,aa,r',j',ac⟩ h;cases r<;>cases r'<;>simp[Kz,Je,MK,NG,Ng]at h
 all_goals simp[h]
def yS3(lv k:Int)(d N:Dig)(row:List Dig)(j:Int)(E:Dig)(h:0<=k):
  qW [I J j,.row 4 row.length 0 row.length,Ds E,Y 0 0,Y 1 0,Y 2 0] [zzB [I J lv],zzB [I J k],zzB (Dr d),zzB (Dr N),⟨t_,32,row.map Ds,f_⟩]=
   s_ (.tup [],[zzB [I J lv],zzB [I J k],zzB (Dr (if j=lv then F4 row k E else d)),zzB (Dr N),⟨t_,32,row.map Ds,f_⟩]):=by
 refine OS ?_ (lv,k,d,N,row,t_,j,E) h rfl;rintro⟨lv,k,d,N,row,r,j,E⟩ ⟨ad,k',d',ae,aa,r',j',ac⟩ h;cases r<;>cases r'<;>simp[Kz,Je,MK,NG,Ng]at h
 all_goals simp[h]
def Yrm:zIC 108 qW:=by
 refine Ut (T:=tb [(65,XE)] []) ysz.2 (DP (all_cons R6 all_nil) all_nil) ?_;rintro⟨lv,k,d,N,row,r,j,pad⟩ h;simp only at h;unfold ysz;cases r
 .push_cast [oT,XW]
  refine Fm (λE=>?_) (λE=>?_)
  .push_cast [E,Sp _ _ _ h,XW]
  .push_cast [E,XW]
 .push_cast [XV,Sn]
  refine Fm (λE=>?_) (λE=>?_)
  .push_cast [E,Sp _ _ _ h,Sn]
  .push_cast [E,Sn]
def Nv(l:List Dig)(lv k:Int)(d:Dig)(j:Nat):Dig:=if 0<=lv/\lv<(j:Int)then FX l lv.toNat k else d
theorem Ydw(l:List Dig)(lv k:Int)(d:Dig)(j:Nat):(if(j:Int)=lv then F4 (Fh l j) k (E7 j)else Nv l lv k d j)=Nv l lv k d (j+1):=by
 unfold Nv
 by_cases h:(j:Int)=lv
 .rw[zae h,zae zaa];have:lv.toNat=j:=zaa
  rw[this];rfl
 .grind
def lR:zsF:=H2 (α:=List Dig×Int×Int×Int×Dig)
 (λ⟨l,last,lv,k,d⟩=>([O (nz 32 (l.map Ds)) (l.map Ds) f_,I J last,.clo 108 [Y 0 0,Y 1 0,Y 2 0]],[zzB [I J lv],zzB [I J k],zzB (Dr d)]))
 (λ⟨l,last,_,k,_⟩=>0<=k/\0<=last/\last<=16/\l.length<=65536)
 (λ⟨l,last,lv,k,d⟩=>(.tup [],[zzB [I J lv],zzB [I J k],zzB (Dr (Nv l lv k d (last.toNat+1)))]))
def yPe(l:List Dig)(E lv k:Int)(d:Dig)(h:0<=k/\0<=E/\E<=16/\l.length<=65536):
  lR [O (nz 32 (l.map Ds)) (l.map Ds) f_,I J E,.clo 108 [Y 0 0,Y 1 0,Y 2 0]] [zzB [I J lv],zzB [I J k],zzB (Dr d)]=
   s_ (.tup [],[zzB [I J lv],zzB [I J k],zzB (Dr (Nv l lv k d (E.toNat+1)))]):=by refine OS ?_ (l,E,lv,k,d) h rfl;rintro⟨l,E,lv,k,d⟩ ⟨l',N,aa,k',d'⟩ h;simp[MK,Ng]at h;simp[h]
theorem Ybp:zIC 63 lR:=by
 refine Ut (T:=tb [(18,Q3),(65,XE),(79,Uq)] [(108,qW)]) nO.2
  (DP (all_cons UU (all_cons R6 (all_cons Zb all_nil))) (all_cons Yrm all_nil)) ?_
 rintro⟨l,last,lv,k,d⟩ ⟨hk,a6,a7,a8⟩;unfold nO;have hs0:Nv l lv k d 0=d:=by unfold Nv;rw[YYN]
 simp(disch:=omega) only[push_cast,↓reduceIte,C3,C6,T7,D5]
 refine Gn (λj:Nat=>[(2,.clo 108 [Y 0 0,Y 1 0,Y 2 0]),(6,Kz (decide (0<j)) 4 (Fh l j)),(7,Y 3 0),(14,I J (last+1)),(15,I J (j:Int))])
  (λj=>[zzB [I J lv],zzB [I J k],zzB (Dr (Nv l lv k d j)),zzB (Dr (E7 j))]++Je (decide (0<j)) (Fh l j))
  (λj=>(j:Int)<=last+1) (λj=>(last+1).toNat-j) 0 (by rw[hs0];push_cast [↓C5]<;>rfl) zaa ?_
 intro j hj;have hr:=um l j;have N:=Ul (E7 j) (Fh l j);have hn:Fh l (j+1)=G4 (E7 j) (Fh l j):=rfl;have hp:E7 (j+1)=HS (E7 j) (E7 j):=rfl;have aa:=Ydw l lv k d j
 by_cases h1:(j:Int)<last+1
 .by_cases hz:j=0
  .subst hz;have ab:decide (0<0)=f_:=rfl;have a0:(0:Int)<last+1:=zaa
   have e0:Fh l 0=l:=rfl;have e1:E7 0=DQ:=rfl;have ae:(if(0:Int)=lv then F4 l k DQ else d)=Nv l lv k d 1:=by rw[<-aa,hs0];rfl
   rw[e0]at hr N hn;rw[e1]at N hn hp;rw[e0,e1,hs0];simp(disch:=omega) only[push_cast,↓reduceIte,C3,C6,↓C5,oT,XW,a0,ae,yS4,bm,D5,jV]
   refine Gn (λi:Nat=>[(2,.clo 108 [Y 0 0,Y 1 0,Y 2 0]),(6,O (nz 32 (l.map Ds)) (l.map Ds) f_),(7,Y 3 0),(9,.row 4 ((G4 DQ l).take i).length 0 ((G4 DQ l).take i).length),(10,I J (2*(i:Int))),(14,I J (last+1)),(15,I J 0)])
    (λi=>[zzB [I J lv],zzB [I J k],zzB (Dr (Nv l lv k d 1)),zzB (Dr DQ),⟨t_,32,((G4 DQ l).take i).map Ds,f_⟩]) (λi=>2*i<=l.length+1) (λi=>l.length+1-i) 0 (by push_cast [↓C5]<;>rfl) zaa ?_
   intro i hi;have f0:(2*(i:Int)).toNat=2*i:=zaa
   have f1:(2*(i:Int)+2)=2*((i+1:Nat):Int):=zaa
   by_cases h2:2*(i:Int)<(l.length:Int)
   .have e:=rq DQ l i zaa;have hl:((G4 DQ l).take i).length<=65536:=by rw[AJ];omega
    simp(disch:=omega) only[push_cast,↓reduceIte,C3,Dd,Db,C6,h2,Mr,D5,Sp,KL,f0];refine EV (i+1) zaa zaa ?_;grind
   .have e:(G4 DQ l).take i=G4 DQ l:=AE zaa;simp(disch:=omega) only[push_cast,↓reduceIte,C3,Dd,Db,C6,Dp,Dh,h2,e,KL,D5];refine EV 1 zaa zaa ?_;rfl
  .have ab:decide (0<j)=t_:=by simp;omega
   have a3:decide (0<j+1)=t_:=zac
   generalize Fh l j=R at hr N hn aa;generalize E7 j=E at N hn hp aa;simp(disch:=omega) only[push_cast,↓reduceIte,C3,C6,ab,XV,Sn,h1,aa,yS3,bm,D5,jV]
   refine Gn (λi:Nat=>[(2,.clo 108 [Y 0 0,Y 1 0,Y 2 0]),(6,.row 4 R.length 0 R.length),(7,Y 3 0),(9,.row 5 ((G4 E R).take i).length 0 ((G4 E R).take i).length),(10,I J (2*(i:Int))),(14,I J (last+1)),(15,I J j)])
    (λi=>[zzB [I J lv],zzB [I J k],zzB (Dr (Nv l lv k d (j+1))),zzB (Dr E),⟨t_,32,R.map Ds,f_⟩,⟨t_,32,((G4 E R).take i).map Ds,f_⟩]) (λi=>2*i<=R.length+1) (λi=>R.length+1-i) 0 (by push_cast [↓C5]<;>rfl) zaa ?_
   intro i hi;have f0:(2*(i:Int)).toNat=2*i:=zaa
   have f1:(2*(i:Int)+2)=2*((i+1:Nat):Int):=zaa
   by_cases h2:2*(i:Int)<(R.length:Int)
   .have e:=rq E R i zaa;have hl:((G4 E R).take i).length<=65536:=by rw[AJ];omega
    simp(disch:=omega) only[push_cast,↓reduceIte,C3,Dd,Db,C6,h2,D5,Sp,KL,f0];refine EV (i+1) zaa zaa ?_;grind
   .have e:(G4 E R).take i=G4 E R:=AE zaa;simp(disch:=omega) only[push_cast,↓reduceIte,C3,Dd,Db,C6,Dp,h2,e,KL,D5];refine EV (j+1) zaa zaa ?_;rw[hn,hp,a3];rfl
 .have a4:last.toNat+1=j:=zaa
  have ab:decide (0<j)=t_:=by simp;omega
  simp(disch:=omega) only[push_cast,↓reduceIte,C3,C6,h1,ab,XV,Sn,a4]
def qX:zsF:=H2 (α:=Int×List Dig×Dig×List Dig×Bool×Nat×Dig)
 (λ⟨i0,A,pz,row,r,j,pad⟩=>([I J (j:Int),Kz r 4 row,Ds pad,Y 2 0,Y 0 0],[zzB [I J i0],⟨t_,32,(A).map Ds,f_⟩,zzB [.row 1 (A).length 0 (A).length],zzB (Dr pz)]++Je r row))
 (λ⟨i0,A,_,_,_,j,_⟩=>0<=i0/\i0<4611686018427387904/\j<=60/\A.length<=65536)
 (λ⟨i0,A,pz,row,r,j,pad⟩=>(.tup [],[zzB [I J i0],⟨t_,32,(A++[F4 row (GM (i0/2^j)) pad]).map Ds,f_⟩,zzB [.row 1 (A++[F4 row (GM (i0/2^j)) pad]).length 0 (A++[F4 row (GM (i0/2^j)) pad]).length],zzB (Dr pz)]++Je r row))
def yS2(N:Int)(A:List Dig)(pz:Dig)(row:List Dig)(j:Nat)(E:Dig)(h:0<=N/\N<4611686018427387904/\j<=60/\A.length<=65536):
  qX [I J (j:Int),O (nz 32 (row.map Ds)) (row.map Ds) f_,Ds E,Y 2 0,Y 0 0] [zzB [I J N],⟨t_,32,(A).map Ds,f_⟩,zzB [.row 1 (A).length 0 (A).length],zzB (Dr pz)]=s_ (.tup [],[zzB [I J N],⟨t_,32,(A++[F4 row (GM (N/2^j)) E]).map Ds,f_⟩,zzB [.row 1 (A++[F4 row (GM (N/2^j)) E]).length 0 (A++[F4 row (GM (N/2^j)) E]).length],zzB (Dr pz)]):=by
 refine OS ?_ (N,A,pz,row,f_,j,E) h rfl;rintro⟨N,A,pz,row,r,j,E⟩ ⟨ae,A',af,ab,r',j',ad⟩ h;cases r<;>cases r'<;>simp[Kz,Je,MK,NG,Ng,Int.natCast_inj]at h
 all_goals simp[h]
def yS1(N:Int)(A:List Dig)(pz:Dig)(row:List Dig)(j:Nat)(E:Dig)(h:0<=N/\N<4611686018427387904/\j<=60/\A.length<=65536):
  qX [I J (j:Int),.row 4 row.length 0 row.length,Ds E,Y 2 0,Y 0 0] [zzB [I J N],⟨t_,32,(A).map Ds,f_⟩,zzB [.row 1 (A).length 0 (A).length],zzB (Dr pz),⟨t_,32,row.map Ds,f_⟩]=s_ (.tup [],[zzB [I J N],⟨t_,32,(A++[F4 row (GM (N/2^j)) E]).map Ds,f_⟩,zzB [.row 1 (A++[F4 row (GM (N/2^j)) E]).length 0 (A++[F4 row (GM (N/2^j)) E]).length],zzB (Dr pz),⟨t_,32,row.map Ds,f_⟩]):=by
 refine OS ?_ (N,A,pz,row,t_,j,E) h rfl;rintro⟨N,A,pz,row,r,j,E⟩ ⟨ae,A',af,ab,r',j',ad⟩ h;cases r<;>cases r'<;>simp[Kz,Je,MK,NG,Ng,Int.natCast_inj]at h
 all_goals simp[h]
def Yrl:zIC 64 qX:=by
 refine Ut (T:=tb [(65,XE)] []) ysy.2 (DP (all_cons R6 all_nil) all_nil) ?_;rintro⟨i0,A,pz,row,r,j,pad⟩ ⟨h1,h2,h3,h4⟩;have h8:=YP j;have h9:0<=i0/2^j:=BD zaa zaa;have N:i0/2^j<=i0:=B1 _ zaa;have hs:0<=GM (i0/2^j):=by unfold GM;split<;>omega
 have E:(if i0/2^j%2=0 then i0/2^j+1 else i0/2^j-1)=GM (i0/2^j):=rfl;unfold ysy;cases r
 .push_cast(disch:=lia)[oT,XW,j3,Ycg,E,Sp]
 .push_cast(disch:=lia)[XV,Sn,j3,Ycg,E,Sp]
def lS:zsF:=H2 (α:=List Dig×Int×Int)
 (λ⟨l,last,i0⟩=>([O (nz 32 (l.map Ds)) (l.map Ds) f_,I J last,.clo 64 [Y 2 0,Y 0 0]],[zzB [I J i0],⟨t_,32,[],f_⟩,zzB [.row 1 0 0 0]]))
 (λ⟨l,last,i0⟩=>0<=i0/\i0<4611686018427387904/\0<=last/\last<=16/\l.length<=65536)
 (λ⟨l,last,i0⟩=>(.tup [],[zzB [I J i0],⟨t_,32,(Ic l i0 (last.toNat+1)).map Ds,f_⟩,zzB [.row 1 (Ic l i0 (last.toNat+1)).length 0 (Ic l i0 (last.toNat+1)).length]]))
def yPd(l:List Dig)(E N:Int)(h:0<=N/\N<4611686018427387904/\0<=E/\E<=16/\l.length<=65536):
  lS [O (nz 32 (l.map Ds)) (l.map Ds) f_,I J E,.clo 64 [Y 2 0,Y 0 0]] [zzB [I J N],⟨t_,32,[],f_⟩,zzB [.row 1 0 0 0]]=
   s_ (.tup [],[zzB [I J N],⟨t_,32,(Ic l N (E.toNat+1)).map Ds,f_⟩,zzB [.row 1 (Ic l N (E.toNat+1)).length 0 (Ic l N (E.toNat+1)).length]]):=by refine OS ?_ (l,E,N) h rfl;rintro⟨l,E,N⟩ ⟨l',aa,ab⟩ h;simp[MK]at h;simp[h]
theorem Ybo:zIC 63 lS:=by
 refine Ut (T:=tb [(18,Q3),(65,XE),(79,Uq)] [(64,qX)]) nO.2
  (DP (all_cons UU (all_cons R6 (all_cons Zb all_nil))) (all_cons Yrl all_nil)) ?_
 rintro⟨l,last,i0⟩ ⟨hk,ae,bb,bc,bd⟩;unfold nO;simp(disch:=omega) only[push_cast,↓reduceIte,C3,C6,T7,D5]
 refine Gn (λj:Nat=>[(2,.clo 64 [Y 2 0,Y 0 0]),(6,Kz (decide (0<j)) 4 (Fh l j)),(7,Y 3 0),(14,I J (last+1)),(15,I J (j:Int))])
  (λj=>[zzB [I J i0],⟨t_,32,(Ic l i0 j).map Ds,f_⟩,zzB [.row 1 (Ic l i0 j).length 0 (Ic l i0 j).length],zzB (Dr (E7 j))]++Je (decide (0<j)) (Fh l j))
  (λj=>(j:Int)<=last+1) (λj=>(last+1).toNat-j) 0 (by push_cast [↓C5]<;>rfl) zaa ?_
 intro j hj;have hr:=um l j;have N:=Ul (E7 j) (Fh l j);have hn:Fh l (j+1)=G4 (E7 j) (Fh l j):=rfl;have hp:E7 (j+1)=HS (E7 j) (E7 j):=rfl;have ac:Ic l i0 j++[F4 (Fh l j) (GM (i0/2^j)) (E7 j)]=Ic l i0 (j+1):=rfl;have be:=mR l i0 j
 by_cases h1:(j:Int)<last+1
 .by_cases hz:j=0
  .subst hz;have aa:decide (0<0)=f_:=rfl;have a1:(0:Int)<last+1:=zaa
   have e0:Fh l 0=l:=rfl;have e1:E7 0=DQ:=rfl;have e2:Ic l i0 0=[]:=rfl;have ba:[F4 l (GM (i0/2^0)) DQ]=Ic l i0 1:=rfl;have a4:0<=i0/\i0<4611686018427387904/\0<=60/\([]:List Dig).length<=65536:=⟨hk,ae,zaa,zac⟩;have ab:=yS2 i0 [] DQ l 0 DQ a4;rw[e0]at hr N hn;rw[e1]at N hn hp;simp only[Bc,As,Aq,Av,An,Ar,↓C5]at ab;rw[e0,e1,e2];simp(disch:=omega) only[push_cast,↓reduceIte,C3,C6,Di,↓C5,oT,XW,a1,ab,bm,D5,jV]
   refine Gn (λi:Nat=>[(2,.clo 64 [Y 2 0,Y 0 0]),(6,O (nz 32 (l.map Ds)) (l.map Ds) f_),(7,Y 3 0),(9,.row 4 ((G4 DQ l).take i).length 0 ((G4 DQ l).take i).length),(10,I J (2*(i:Int))),(14,I J (last+1)),(15,I J 0)])
    (λi=>[zzB [I J i0],⟨t_,32,(Ic l i0 1).map Ds,f_⟩,zzB [.row 1 (Ic l i0 1).length 0 (Ic l i0 1).length],zzB (Dr DQ),⟨t_,32,((G4 DQ l).take i).map Ds,f_⟩]) (λi=>2*i<=l.length+1) (λi=>l.length+1-i) 0 (by push_cast [↓C5]<;>rfl) zaa ?_
   intro i hi;have f0:(2*(i:Int)).toNat=2*i:=zaa
   have f1:(2*(i:Int)+2)=2*((i+1:Nat):Int):=zaa
   by_cases h2:2*(i:Int)<(l.length:Int)
   .have e:=rq DQ l i zaa;have hl:((G4 DQ l).take i).length<=65536:=by rw[AJ];omega
    simp(disch:=omega) only[push_cast,↓reduceIte,C3,Dd,Db,C6,h2,Mr,D5,Sp,KL,f0];refine EV (i+1) zaa zaa ?_;grind
   .have e:(G4 DQ l).take i=G4 DQ l:=AE zaa;simp(disch:=omega) only[push_cast,↓reduceIte,C3,Dd,Db,C6,Dp,Dh,h2,e,KL,D5];refine EV 1 zaa zaa ?_;rfl
  .have aa:decide (0<j)=t_:=by simp;omega
   have a5:decide (0<j+1)=t_:=zac
   have a6:0<=i0/\i0<4611686018427387904/\j<=60/\(Ic l i0 j).length<=65536:=⟨hk,ae,zaa,zaa⟩;generalize Fh l j=R at hr N hn ac;generalize E7 j=E at N hn hp ac;simp(disch:=omega) only[push_cast,↓reduceIte,C3,C6,aa,XV,Sn,h1,ac,yS1 _ _ _ _ _ _ a6,bm,D5,jV]
   refine Gn (λi:Nat=>[(2,.clo 64 [Y 2 0,Y 0 0]),(6,.row 4 R.length 0 R.length),(7,Y 3 0),(9,.row 5 ((G4 E R).take i).length 0 ((G4 E R).take i).length),(10,I J (2*(i:Int))),(14,I J (last+1)),(15,I J j)])
    (λi=>[zzB [I J i0],⟨t_,32,(Ic l i0 (j+1)).map Ds,f_⟩,zzB [.row 1 (Ic l i0 (j+1)).length 0 (Ic l i0 (j+1)).length],zzB (Dr E),⟨t_,32,R.map Ds,f_⟩,⟨t_,32,((G4 E R).take i).map Ds,f_⟩]) (λi=>2*i<=R.length+1) (λi=>R.length+1-i) 0 (by push_cast [↓C5]<;>rfl) zaa ?_
   intro i hi;have f0:(2*(i:Int)).toNat=2*i:=zaa
   have f1:(2*(i:Int)+2)=2*((i+1:Nat):Int):=zaa
   by_cases h2:2*(i:Int)<(R.length:Int)
   .have e:=rq E R i zaa;have hl:((G4 E R).take i).length<=65536:=by rw[AJ];omega
    simp(disch:=omega) only[push_cast,↓reduceIte,C3,Dd,Db,C6,h2,D5,Sp,KL,f0];refine EV (i+1) zaa zaa ?_;grind
   .have e:(G4 E R).take i=G4 E R:=AE zaa;simp(disch:=omega) only[push_cast,↓reduceIte,C3,Dd,Db,C6,Dp,h2,e,KL,D5];refine EV (j+1) zaa zaa ?_;rw[hn,hp,a5];rfl
 .have a7:last.toNat+1=j:=zaa
  have aa:decide (0<j)=t_:=by simp;omega
  simp(disch:=omega) only[push_cast,↓reduceIte,C3,Dd,C6,h1,aa,XV,Sn,a7]
