/-
  Code and functions: a function whose translation comes to a value meets its contract.
  Conditions: none; these are lemmas.
-/
import Derived.Test.YtijnglngaogdjaaGreatDoorEngP2
import Derived.OrdersIn
import Derived.TacticsIn
import Derived.Sort.LoopGhostIn
import Derived.RangeFuncLeaves
import Derived.RangeFuncRecord
set_option linter.unusedVariables false
set_option linter.unusedSimpArgs false
namespace Go.Proofs.YtijnglngaogdjaaGreatDoor.PI
open Go Go.RowKit
def Yhb(n:Nat):Option Nat→Bool
 |some d=>decide (d<n)
 |none=>true
def trI(P:Program)(il:List Nat)(n:Nat)(ops:Array Oper)(o:Oper):Option PI:=
 if Yhb n o.dst then
  match o.guard with
  |none=>some {dst:=o.dst,op:=(trOp P il o.op).getD .fail}
  |some (j,want)=>match(ops[j]?).bind (·.dst)with
   |some s=>some {dst:=o.dst,op:=(trOp P il o.op).getD .fail,guard:=some (s,want)}
   |none=>none
 else none
def trIs(P:Program)(il:List Nat)(n:Nat)(ops:Array Oper):List Oper→Option (List PI)
 |[]=>some []
 |o::r=>match trI P il n ops o,trIs P il n ops r with
  |some a,some b=>some (a::b)
  |_,_=>none
def yN2(P:Program)(il:List Nat)(n:Nat)(o1 o2:Oper):Option (PI×PI):=match o1.op,o2.op,o1.dst with
 |.buildSlice t len parts,.convert s t' (.tmp d),some d1=>match P.underlying t with
  |some (.slice e)=>match P.underlying e with
   |some (.int .u8)=>if s=t∧t'=t∧d=d1∧d1<n∧Yhb n o2.dst=true∧o1.guard=none∧o2.guard=none then
     match trOp P il (.buildSlice t len parts)with
     |some p=>some ({dst:=some d1,op:=p},{dst:=o2.dst,op:=.mov (.s d1)})
     |none=>none
    else none
   |_=>none
  |_=>none
 |_,_,_=>none
def ysb(P:Program)(il:List Nat)(n:Nat)(ops:Array Oper):List Oper→Option (List PI)
 |[]=>some []
 |[o]=>(trI P il n ops o).map fun a=>[a]
 |o1::o2::r=>match yN2 P il n o1 o2 with
  |some (a,b)=>(ysb P il n ops r).map fun l=>a::b::l
  |none=>match trI P il n ops o1,ysb P il n ops (o2::r)with
   |some a,some l=>some (a::l)
   |_,_=>none
def isX(il:List Nat)(i:PI):Bool:=match i.op with
 |.icall f _=>il.contains (f+60000000)
 |.callv _ _=>il.contains 60000000
 |_=>false
def Yk3(P:Program)(n:Nat)(l:List Oper):Option (List Oper×Nat×Nat×Operand):=match l.reverse with
 |o2::o1::rpre=>match o1.op,o2.op,o1.dst with
  |.makeInterface t xo,.panic (.tmp d),some d1=>if d=d1∧d1<n∧o1.guard=none∧o2.guard=none then
    match P.underlying t with
    |some (.interface _)=>none
    |some _=>some (rpre.reverse,d1,t,xo)
    |none=>none
   else none
  |_,_,_=>none
 |_=>none
theorem yQ6{P:Program}{n:Nat}{l pre:List Oper}{d1 t:Nat}{xo:Operand}(h:Yk3 P n l=some (pre,d1,t,xo)):∃ o1 o2,l=pre++[o1,o2]∧o1.op=.makeInterface t xo∧o1.dst=some d1∧o2.op=.panic (.tmp d1)∧d1<n∧o1.guard=none∧o2.guard=none∧
  ∃ u,P.underlying t=some u∧∀ m,u≠.interface m:=by
 unfold Yk3 at h
 split at h
 case h_2=>cases h
 rename_i o2 o1 rpre hl
 split at h
 case h_2=>cases h
 rename_i t' xo' d d1' h1 h2 h3
 split at h
 case isFalse=>cases h
 rename_i hc
 obtain⟨rfl,c1,c2,c3⟩:=hc
 split at h
 case h_1=>cases h
 case h_3=>cases h
 rename_i u hne hu
 simp only[Ywh,Ywj]at h
 obtain⟨rfl,rfl,rfl,rfl⟩:=h
 refine⟨o1,o2,?_,h1,h3,h2,c1,c2,c3,u,hu,fun m e=>hne m e⟩
 have:=congrArg List.reverse hl
 simpa using this
def ykg(o:Oper):List Nat:=(o.after.toList.filter (Region.binds .any)).map (·.on)
def ycr:List Oper→List Nat→List Nat
 |[],acc=>acc
 |o::r,acc=>ycr r (acc++[(ykg o).foldl (fun m e=>m ||| (1 <<< e) ||| acc.getD e 0) 0])
def yye(ms:List Nat)(l:List PI):Bool:=
 l.zipIdx.all fun(y,i)=>(l.take i).zipIdx.all fun(x,j)=>(ms.getD i 0).testBit j || x.apart y
def mayX:POp→Bool
 |.icall _ _=>true
 |.callv _ _=>true
 |_=>false
def ordX(ms:List Nat)(l:List PI):Bool:=
 l.zipIdx.all fun(y,i)=>!mayX y.op || ((List.range l.length).all fun j=>(j == i) || (if j<i then(ms.getD i 0).testBit j else(ms.getD j 0).testBit i))
def yP2(il:List Nat)(l:List PI):Nat:=(l.takeWhile fun i=>!isX il i).length
def Ymh(ms:List Nat)(l:List PI)(i:Nat):Bool:=decide (i<l.length) && (List.range l.length).all fun j=>(j == i) || (if j<i then(ms.getD i 0).testBit j else(ms.getD j 0).testBit i)
def anyX(q:List (PI×Bool×List Nat))(x:PI)(i:Nat):PC:=.alt (.any q) (.seq (.seq (.any (q.take i)) (.opsX [x])) .fail)
def ynw(l:List Oper):Bool:=l.zipIdx.all fun(o,i)=>(ykg o).all fun e=>decide (e<i)
def yd8:Code→Bool
 |.seq a b=>yd8 a && yd8 b
 |.cond _ a b=>yd8 a && yd8 b
 |.block _ c=>yd8 c
 |.loop c=>yd8 c
 |.rangeFunc _ _ _ _=>false
 |_=>true
def trC(P:Program)(il:List Nat)(n:Nat):List (List Nat)→Code→Option (PC×List (List Nat))
 |h,.skip=>some (.skip,h)
 |h,.region _ ops draw=>if draw then match trIs P il n ops ops.toList with
  |some l=>
    if P.follows .mixedOrders && ynw ops.toList then
     if yye (ycr ops.toList []) l then some (if l.any (isX il) && ordX (ycr ops.toList []) l then .opsX l else .ops l,h)else
      match Yca (ycr ops.toList []) l with
      |some (x,y)=>match h,yu9 (ycr ops.toList []) l (some (x,y)) (List.range ops.size),yu9 (ycr ops.toList []) l (some (y,x)) (ord2 (ycr ops.toList []) ops.size x y)with
       |keep::h',some q1,some q2=>if yJa ops.size (ord2 (ycr ops.toList []) ops.size x y) && x != y then some (.any2 keep q1 q2,h')else some (.fail,h)
       |_,_,_=>some (.fail,h)
      |none=>match Yqg (ycr ops.toList []) l with
       |some q=>if il.contains 70000000 && decide (2≤(yQs (ycr ops.toList []) l).length)then
         match h with
         |keep::h'=>some (.alt (.any q) (altL keep (ycr ops.toList []) l ops.size (yQs (ycr ops.toList []) l)),h')
         |[]=>some (.fail,h)
        else if l.any (isX il) && Ymh (ycr ops.toList []) l (yP2 il l)then some (anyX q (l.getD (yP2 il l) default) (yP2 il l),h)
        else some (.any q,h)
       |none=>some (.fail,h)
    else some (.fail,h)
  |none=>none
  else match Yk3 P n ops.toList with
   |some (pre,d1,t,xo)=>match ysb P il n ops pre,trA xo with
    |some l,some x=>some (.pan l d1 t x,h)
    |_,_=>some (.fail,h)
   |none=>(ysb P il n ops ops.toList).map fun l=>(if l.any (isX il)then .opsX l else .ops l,h)
 |h,.seq a b=>match trC P il n h a with
  |some (x,h')=>match trC P il n h' b with
   |some (y,h'')=>some (.seq x y,h'')
   |none=>none
  |none=>none
 |h,.cond c a b=>match trA c with
  |some pa=>match trC P il n h a with
   |some (x,h')=>match trC P il n h' b with
    |some (y,h'')=>some (.cond pa x y,h'')
    |none=>none
   |none=>none
  |none=>none
 |h,.block id c=>match trC P il n h c with
  |some (x,h')=>some (.block id x,h')
  |none=>none
 |h,.loop c=>match h with
  |keep::h'=>match trC P il n h' c with
   |some (x,h'')=>some (if keep.head?=some 1000000 then .loopA keep.tail x else .loop keep x,h'')
   |none=>none
  |[]=>none
 |h,.rangeFunc g ps a b=>match trA g with
  |some pa=>match trC P il n h a with
   |some (x,h')=>match trC P il n h' b with
    |some (y,h'')=>if yd8 a && yd8 b && ps.toList.all (fun p=>decide (p<n))then some (.range pa ps.toList x y,h'')else some (.fail,h)
    |none=>none
   |none=>none
  |none=>none
 |h,.exit id=>some (.exit id,h)
 |h,.ret=>some (.ret,h)
 |h,_=>some (.fail,h)
def yD5(P:Program):List ResultVar→Option (List PRes)
 |[]=>some []
 |.tmp t::r=>(yD5 P r).map (.tmp t::·)
 |.cell a t::r=>match szOf P t,agOf P t,yD5 P r with
  |some n,some ag,some l=>some (.cell a n ag::l)
  |_,_,_=>none
def trF(P:Program)(il:List Nat)(f:Nat)(hints:List (List Nat)):Option PF:=
 match P.funcs[f]? with
 |some fn=>match fn.body with
  |some c=>match trC P il fn.ntmps hints c,yD5 P fn.results.toList with
   |some (pc,_),some res=>if fn.name == "runtime.NumGoroutine" then none else some {code:=pc,res}
   |_,_=>none
  |none=>none
 |none=>none
section
variable {P:Program} {il:List Nat} {G:Glob} {T:Tbl} {base n:Nat} {w0:World} {g0:Ghost} {st0:St} {dl:List Deferred} {r:Option Nat}
def DfOK(w0 w:World):List Deferred→Prop
 |[]=>True
 |d::ds=>(∃ D,d={target:=.collected D,args:=#[]}∧w.heap[D]?=some (.deferred (some []))∧w0.heap[D]?=none∧∀ d'∈ds,d'≠d)∧DfOK w0 w ds
theorem DfOK.mem{w0 w:World}:∀ {ds:List Deferred} {d:Deferred},DfOK w0 w ds→d∈ds→∃ D,d={target:=.collected D,args:=#[]}∧w.heap[D]?=some (.deferred (some []))
 |_::_,d,⟨⟨D,h1,h2,_⟩,h5⟩,hd=>by
  rcases List.mem_cons.1 hd with rfl | hd
  ·exact⟨D,h1,h2⟩
  ·exact DfOK.mem h5 hd
theorem DfOK.mono{w0 w w':World}(h:∀ (b:Nat) (o:Go.Obj),w.heap[b]?=some o→special o=true→Kept w' b o):∀ {ds:List Deferred},DfOK w0 w ds→DfOK w0 w' ds
 |[],_=>trivial
 |_::_,⟨⟨D,h1,h2,h3,h4⟩,h5⟩=>⟨⟨D,h1,(h D _ h2 rfl).def',h3,h4⟩,DfOK.mono h h5⟩
structure Rel (G:Glob) (base n:Nat) (w0:World) (g0:Ghost) (st0:St) (dl:List Deferred) (s:PS) (a:Act) (w:World) (g:Ghost):Prop where
 go1:Go1 base w0 g0 st0 w g s.st
 fr:FR w g s.st s.fr a
 gl:GlobOK G w g
 df:∃ ds,a.defers=ds++dl∧DfOK w0 w ds
 sz:n≤a.tmps.size
theorem Rel.sr{s:PS}{a:Act}{w:World}{g:Ghost}(h:Rel G base n w0 g0 st0 dl s a w g):SR base w g s.st:=h.go1.sr
theorem Rel.go{s s':PS}{a a':Act}{w w':World}{g g':Ghost}(h:Rel G base n w0 g0 st0 dl s a w g)(hg:Go1 base w g s.st w' g' s'.st)(hf:FR w' g' s'.st s'.fr a')(hd:a'.defers=a.defers)(hs:n≤a'.tmps.size):Rel G base n w0 g0 st0 dl s' a' w' g':=
 ⟨h.go1.trans hg,hf,h.gl.mono hg.im,(let⟨ds,h1,h2⟩:=h.df; ⟨ds,hd.trans h1,h2.mono hg.kp⟩),hs⟩
def R(G:Glob)(base n:Nat)(w0:World)(g0:Ghost)(st0:St)(dl:List Deferred)(s:PS)(a:Act)(w:World):Prop:=∃ g,Rel G base n w0 g0 st0 dl s a w g
theorem ynq(a:Act)(dst:Option Tmp)(v:Value):(a.put dst v).tmps.size=a.tmps.size:=by
 cases dst <;> simp[Act.put]
theorem ye3(a:Act)(dst:Option Tmp)(v:Value):(a.put dst v).defers=a.defers:=by
 cases dst <;> rfl
theorem yve{ops:Array Oper}{o:Oper}{i:PI}{s:PS}{a:Act}{w:World}{g:Ghost}(hF:FR w g s.st s.fr a)(ht:trI P il n ops o=some i){b:Bool}(hw:i.wanted s.fr=some b):Region.wanted o (yielded ops a.tmps)=b:=by
 unfold trI at ht
 split at ht
 case isFalse=>cases ht
 split at ht
 ·rename_i hg
  simp only[Ywh]at ht; subst ht
  simp only[PI.wanted,Ywh]at hw; subst hw
  simp[Region.wanted,hg]
 ·rename_i j want hg
  split at ht
  case h_2=>cases ht
  rename_i sl hsl
  simp only[Ywh]at ht; subst ht
  simp only[PI.wanted]at hw
  have hr:=hF sl
  have hy:yielded ops a.tmps j=(match a.tmps[sl]? with | some (.bool b)=>some b | _=>none):=by
   unfold yielded
   rw[hsl]
   rfl
  simp only[Region.wanted,hg,hy]
  split at hw
  ·rename_i bb hb
   simp only[Ywh]at hw; subst hw
   rw[hb]at hr
   have hv:=yfl hr
   have hlt:sl<a.tmps.size:=by
    rcases Nat.lt_or_ge sl a.tmps.size with h | h
    ·exact h
    ·simp[Array.getElem?_eq_none h,undef]at hv
   have h2:a.tmps[sl]?=some (.bool bb):=by
    rw[Array.getElem?_eq_getElem hlt]
    simp[hlt]at hv
    rw[hv]
   simp only[h2]
   cases bb <;> cases want <;> rfl
  ·rename_i hb
   simp only[Ywh]at hw; subst hw
   rw[hb]at hr
   generalize hv:a.tmps.getD sl undef=v at hr
   cases hr with
   |tup _ vs h1 h2=>
    have h3:vs=[]:=List.eq_nil_of_length_eq_zero h1.symm
    subst h3
    have h4:(match a.tmps[sl]? with | some (.bool b)=>some b | _=>none)=(none:Option Bool):=by
     rcases Nat.lt_or_ge sl a.tmps.size with h | h
     ·simp[h]at hv
      rw[Array.getElem?_eq_getElem h,hv]
     ·rw[Array.getElem?_eq_none h]
    rw[h4]
    cases want <;> rfl
  ·cases hw
theorem yN3{ops:Array Oper}{o:Oper}{i:PI}(ht:trI P il n ops o=some i):(trOp P il o.op=some i.op∨i.op=.fail)∧i.dst=o.dst∧∀ t,o.dst=some t→t<n:=by
 have hop:∀ p,(trOp P il o.op).getD .fail=p→trOp P il o.op=some p∨p=.fail:=by
  intro p hp
  cases h:trOp P il o.op with
  |none=>rw[h]at hp; exact .inr hp.symm
  |some q=>rw[h]at hp; exact .inl (by rw[← hp]; rfl)
 unfold trI at ht
 split at ht
 case isFalse=>cases ht
 rename_i hd
 have hd':∀ t,o.dst=some t→t<n:=by
  intro t h; rw[h]at hd; simpa[Yhb]using hd
 split at ht
 ·simp only[Ywh]at ht; subst ht; exact⟨hop _ rfl,rfl,hd'⟩
 ·split at ht
  ·simp only[Ywh]at ht; subst ht; exact⟨hop _ rfl,rfl,hd'⟩
  ·cases ht
theorem yHo(hT:TblOK P G T)(hY:YOK P G T.y base w0 g0 st0){ops:Array Oper}{o:Oper}{i:PI}{s s':PS}{a:Act}{w:World}{K:Act→World→Prop}{Q:Exit→Act→World→Prop}(hR:R G base n w0 g0 st0 dl s a w)(ht:trI P il n ops o=some i)(hx:i.exec G T s=some s')
  (hK:∀ a' w',R G base n w0 g0 st0 dl s' a' w'→a'.defers=a.defers→K a' w'):if Region.wanted o (yielded ops a.tmps)then o.wpIn (Wr r) 0 P a w K Q else(∀ f,o.about P w a.eval=some f→(Wr r).fn f)∧K (a.put o.dst undef) w:=by
 obtain⟨g,h⟩:=hR
 obtain⟨h1,h2,h3⟩:=yN3 ht
 have hdst:∀ t,i.dst=some t→t<a.tmps.size:=fun t e=>Nat.lt_of_lt_of_le (h3 t (h2 ▸ e)) h.sz
 rw[PI.exec_eq]at hx
 simp only[Ywi]at hx
 obtain⟨⟨d,st'⟩,hx,rfl⟩:=hx
 unfold PI.step at hx
 split at hx
 ·cases hx
 ·rename_i hw
  rw[yve h.fr ht hw]
  simp only[Ywh,Ywj]at hx
  obtain⟨rfl,rfl⟩:=hx
  simp only[Bool.false_eq_true,if_false]
  refine⟨fun _ _=>trivial,hK _ _ ⟨g,h.go (Go1.refl h.sr) ?_ (ye3 ..) (by rw[ynq]; exact h.sz)⟩ (ye3 ..)⟩
  rw[← h2]
  exact h.fr.put hdst (.tup [] [] rfl (fun i d v hh=>by simp at hh))
 ·rename_i hw
  rw[yve h.fr ht hw]
  simp only[if_true]
  have h1:=h1.resolve_right (fun e=>by rw[e]at hx; simp[POp.exec]at hx)
  refine Yfc hT hY h.go1 h.gl h.fr h1 hx ?_
  intro v w' g' hgo hrep
  refine hK _ _ ⟨g',h.go hgo ?_ (ye3 ..) (by rw[ynq]; exact h.sz)⟩ (ye3 ..)
  rw[← h2]
  exact(h.fr.mono hgo.im hgo.evo).put hdst hrep
theorem ytu(hT:TblOK P G T)(hY:YOK P G T.y base w0 g0 st0){ops:Array Oper}{o:Oper}{i:PI}{s s':PS}{a:Act}{w:World}{K:Act→World→Prop}{Q:Exit→Act→World→Prop}(hR:R G base n w0 g0 st0 dl s a w)(ht:trI P il n ops o=some i)(hx:i.exec G T s=some s')
  (hK:∀ a' w',R G base n w0 g0 st0 dl s' a' w'→K a' w'):if Region.wanted o (yielded ops a.tmps)then o.wpIn (Wr r) 0 P a w K Q else(∀ f,o.about P w a.eval=some f→(Wr r).fn f)∧K (a.put o.dst undef) w:=
 yHo hT hY hR ht hx fun a' w' h _=>hK a' w' h
theorem yIx(hT:TblOK P G T)(hY:YOK P G T.y base w0 g0 st0){ops:Array Oper}{Q:Exit→Act→World→Prop}:∀ (l:List Oper) (is:List PI) (s s':PS) (a:Act) (w:World),trIs P il n ops l=some is→ycg G T is s=some s'→R G base n w0 g0 st0 dl s a w→
  (∀ a' w',R G base n w0 g0 st0 dl s' a' w'→a'.defers=a.defers→Q .normal a' w')→wpListIn (Wr r) 0 P ops Q l a w
 |[],is,s,s',a,w,ht,hx,hR,hQ=>by
  simp[trIs]at ht; subst ht
  simp[ycg]at hx; subst hx
  exact hQ a w hR rfl
 |o::l,is,s,s',a,w,ht,hx,hR,hQ=>by
  simp only[trIs]at ht
  split at ht
  ·rename_i i is' h1 h2
   simp only[Ywh]at ht; subst ht
   simp only[ycg]at hx
   split at hx
   ·rename_i s1 hs1
    exact yHo hT hY hR h1 hs1 fun a' w' hR' hd'=>yIx hT hY l is' s1 s' a' w' h2 hx hR' fun a2 w2 hR2 hd2=>hQ a2 w2 hR2 (hd2.trans hd')
   ·cases hx
  ·cases ht
theorem yIw(hT:TblOK P G T)(hY:YOK P G T.y base w0 g0 st0){ops:Array Oper}{rest:List Oper}{Q:Exit→Act→World→Prop}:∀ (l:List Oper) (is:List PI) (s s':PS) (a:Act) (w:World),trIs P il n ops l=some is→ycg G T is s=some s'→R G base n w0 g0 st0 dl s a w→
  (∀ a' w',R G base n w0 g0 st0 dl s' a' w'→wpListIn (Wr r) 0 P ops Q rest a' w')→wpListIn (Wr r) 0 P ops Q (l++rest) a w
 |[],is,s,s',a,w,ht,hx,hR,hQ=>by
  simp[trIs]at ht; subst ht
  simp[ycg]at hx; subst hx
  exact hQ a w hR
 |o::l,is,s,s',a,w,ht,hx,hR,hQ=>by
  unfold trIs at ht
  split at ht
  ·rename_i i is' h1 h2
   simp only[Ywh]at ht; subst ht
   simp only[ycg]at hx
   split at hx
   ·rename_i s1 hs1
    exact ytu hT hY hR h1 hs1 fun a' w' hR'=>yIw hT hY l is' s1 s' a' w' h2 hx hR' hQ
   ·cases hx
  ·cases ht
theorem yyu{o1 o2:Oper}{i1 i2:PI}(h:yN2 P il n o1 o2=some (i1,i2)):∃ t e len parts d1 p,o1.op=.buildSlice t len parts∧o2.op=.convert t t (.tmp d1)∧o1.dst=some d1∧P.underlying t=some (.slice e)∧P.underlying e=some (.int .u8)∧d1<n∧(∀ x,o2.dst=some x→x<n)∧o1.guard=none∧o2.guard=none∧
  trOp P il (.buildSlice t len parts)=some p∧i1={dst:=some d1,op:=p}∧i2={dst:=o2.dst,op:=.mov (.s d1)}:=by
 unfold yN2 at h
 split at h
 case h_2=>cases h
 rename_i t len parts s t' d d1 h1 h2 h3
 split at h
 case h_2=>cases h
 rename_i e hu
 split at h
 case h_2=>cases h
 rename_i hu8
 split at h
 case isFalse=>cases h
 rename_i hc
 obtain⟨rfl,rfl,rfl,c1,c2,c3,c4⟩:=hc
 split at h
 case h_2=>cases h
 rename_i p hp
 simp only[Ywh,Ywj]at h
 obtain⟨rfl,rfl⟩:=h
 exact⟨_,e,len,parts,_,p,h1,h2,h3,hu,hu8,c1,fun x hx=>by rw[hx]at c2; simpa[Yhb]using c2,c3,c4,hp,rfl,rfl⟩
theorem yO1{ops:Array Oper}{o1 o2:Oper}{i1 i2:PI}{s s1 s2:PS}{a:Act}{w:World}{K:Act→World→Prop}{Q:Exit→Act→World→Prop}(hR:R G base n w0 g0 st0 dl s a w)(ht:yN2 P il n o1 o2=some (i1,i2))(hx1:i1.exec G T s=some s1)(hx2:i2.exec G T s1=some s2)
  (hK:∀ a' w',R G base n w0 g0 st0 dl s2 a' w'→K a' w'):Region.wanted o1 (yielded ops a.tmps)=true∧(∀ tm,Region.wanted o2 (yielded ops tm)=true)∧o1.wpIn (Wr r) 0 P a w (fun a' w'=>o2.wpIn (Wr r) 0 P a' w' K Q) Q:=by
 obtain⟨g,h⟩:=hR
 obtain⟨t,e,len,parts,d1,p,h1,h2,h3,hu,hu8,hd1,hd2,hg1,hg2,hp,rfl,rfl⟩:=yyu ht
 refine⟨by simp[Region.wanted,hg1],fun tm=>by simp[Region.wanted,hg2],?_⟩
 rw[PI.exec_eq]at hx1 hx2
 simp only[PI.step,PI.wanted,Ywi]at hx1 hx2
 obtain⟨⟨d,st'⟩,hx1,rfl⟩:=hx1
 obtain⟨⟨d',st2⟩,hx2,rfl⟩:=hx2
 simp only[POp.exec,Ywh,Ywj]at hx2
 obtain⟨rfl,rfl⟩:=hx2
 obtain⟨dst1,op1,ty1,pos1,after1,guard1⟩:=o1
 obtain⟨dst2,op2,ty2,pos2,after2,guard2⟩:=o2
 simp only at h1 h2 h3 hd2
 subst h1; subst h2; subst h3
 have hlt:d1<a.tmps.size:=Nat.lt_of_lt_of_le hd1 h.sz
 have hw:=yLl (Q:=Q) (next2:=K) (d1:=d1) (d2:=dst2) (ty:=ty1) (ty2:=ty2) (pos:=pos1) (pos2:=pos2) (after:=after1) (after2:=after2) (guard:=guard1) (guard2:=guard2) h.sr h.gl h.fr hp hu hu8 hlt hx1 (fun v w' g' hgo hrep=>by
  refine hK _ _ ⟨g',h.go hgo ?_ (by rw[ye3,ye3]) (by rw[ynq,ynq]; exact h.sz)⟩
  have hF1:=(h.fr.mono hgo.im hgo.evo).put (dst:=some d1) (a:=a) (fun t e=>by cases e; exact hlt) hrep
  have hrd:rho G (s.fr.put (some d1) d) (.s d1)=d:=by
   show(if d1=d1 then d else s.fr d1)=d
   rw[if_pos rfl]
  rw[hrd]
  exact hF1.put (fun t e=>by rw[ynq]; exact Nat.lt_of_lt_of_le (hd2 t e) h.sz) hrep)
 refine yhq (fun c e=>by cases e) ?_
 refine Oper.wp_mono (fun a' w' h'=>?_) hw
 exact yhq (fun c e=>by cases e) h'
theorem ymp(hT:TblOK P G T)(hY:YOK P G T.y base w0 g0 st0){ops:Array Oper}{rest:List Oper}{Q:Exit→Act→World→Prop}:∀ (l:List Oper) (is:List PI) (s s':PS) (a:Act) (w:World),ysb P il n ops l=some is→ycg G T is s=some s'→R G base n w0 g0 st0 dl s a w→
  (∀ a' w',R G base n w0 g0 st0 dl s' a' w'→wpListIn (Wr r) 0 P ops Q rest a' w')→wpListIn (Wr r) 0 P ops Q (l++rest) a w
 |[],is,s,s',a,w,ht,hx,hR,hQ=>by
  simp[ysb]at ht; subst ht
  simp[ycg]at hx; subst hx
  exact hQ a w hR
 |[o],is,s,s',a,w,ht,hx,hR,hQ=>by
  simp only[ysb,Ywi]at ht
  obtain⟨i,h1,rfl⟩:=ht
  exact yIw (il:=il) hT hY [o] [i] s s' a w (by simp[trIs,h1]) hx hR hQ
 |o1::o2::l,is,s,s',a,w,ht,hx,hR,hQ=>by
  unfold ysb at ht
  split at ht
  ·rename_i i1 i2 hp
   simp only[Ywi]at ht
   obtain⟨is',h2,rfl⟩:=ht
   simp only[ycg]at hx
   split at hx
   case h_2=>cases hx
   rename_i s1 hs1
   split at hx
   case h_2=>cases hx
   rename_i s2 hs2
   obtain⟨e1,e2,e3⟩:=yO1 (r:=r) (ops:=ops) (Q:=Q) (K:=wpListIn (Wr r) 0 P ops Q (l++rest)) hR hp hs1 hs2 (fun a' w' hR'=>ymp hT hY l is' s2 s' a' w' h2 hx hR' hQ)
   simp only[List.cons_append,wpListIn,e1,e2,if_true]
   exact e3
  ·split at ht
   ·rename_i i is' h1 h2
    simp only[Ywh]at ht; subst ht
    simp only[ycg]at hx
    split at hx
    ·rename_i s1 hs1
     exact ytu hT hY hR h1 hs1 fun a' w' hR'=>ymp hT hY (o2::l) is' s1 s' a' w' h2 hx hR' hQ
    ·cases hx
   ·cases ht
theorem yzx(hT:TblOK P G T)(hY:YOK P G T.y base w0 g0 st0){ops:Array Oper}{Q:Exit→Act→World→Prop}(l:List Oper)(is:List PI)(s s':PS)(a:Act)(w:World)(ht:ysb P il n ops l=some is)(hx:ycg G T is s=some s')(hR:R G base n w0 g0 st0 dl s a w)
  (hQ:∀ a' w',R G base n w0 g0 st0 dl s' a' w'→Q .normal a' w'):wpListIn (Wr r) 0 P ops Q l a w:=by
 have:=ymp (r:=r) (rest:=[]) hT hY l is s s' a w ht hx hR hQ
 rwa [List.append_nil]at this
theorem yyz(hT:TblOK P G T){ops:Array Oper}{o:Oper}{i:PI}{s s':PS}{t:Nat}{d:D}{a:Act}{w:World}{K:Act→World→Prop}{Q:Exit→Act→World→Prop}(hR:R G base n w0 g0 st0 dl s a w)(ht:trI P il n ops o=some i)(hx:i.execX G T s=some (t,d,s'))
  (hQ:∀ w',R G base n w0 g0 st0 dl s' a w'→Q (.panic (yh4 t d)) a w'):Region.wanted o (yielded ops a.tmps)=true∧o.wpIn (Wr r) 0 P a w K Q:=by
 obtain⟨g,h⟩:=hR
 obtain⟨h1,h2,h3⟩:=yN3 ht
 unfold PI.execX at hx
 split at hx
 case h_2=>cases hx
 rename_i hw
 refine⟨yve h.fr ht hw,?_⟩
 simp only[Ywi,Ywj]at hx
 obtain⟨⟨t',d',st'⟩,hx,rfl,rfl,rfl⟩:=hx
 unfold POp.execX at hx
 split at hx
 case h_2=>cases hx
 rename_i f ds hcl
 split at hx
 case h_2=>cases hx
 rename_i sp hsp
 have hinv:∃ c,o.op=.call c∧∃ vs:List Value,ds.length=vs.length∧(∀ (i:Nat) d v,ds[i]?=some d→vs[i]?=some v→RepV w g s.st d v)∧execOp a.eval o=callFunc f vs.toArray:=by
  obtain⟨dst,op,ty,pos,after,guard⟩:=o
  rcases h1 with h1 | h1
  case inr=>rw[h1]at hcl; cases hcl
  simp only at h1
  generalize i.op=p at h1 hcl
  clear ht h3 h2 hw hQ
  cases op with
  |call c=>
   refine⟨c,rfl,?_⟩
   simp only[trOp]at h1
   split at h1
   ·rename_i b hb
    unfold yts at h1
    repeat' split at h1
    all_goals first | (cases h1; done) | (cases h1; cases hcl; done) | (simp only[Ywh]at h1; subst h1; simp[POp.callee]at hcl; done) | (simp only[Ywi]at h1; obtain⟨_,_,h1⟩:=h1; subst h1; simp[POp.callee]at hcl; done) | skip
   ·rename_i f' hcal
    split at h1
    case h_2=>cases h1
    rename_i fn l hfn hl
    split at h1
    case isFalse=>
     split at h1
     ·cases h1
     ·simp only[Ywh]at h1; subst h1; simp[POp.callee]at hcl
    simp only[Ywh]at h1
    split at h1
    ·subst h1; simp[POp.callee]at hcl
    split at h1
    ·subst h1; simp[POp.callee]at hcl
    ·split at h1
     ·subst h1
      simp only[POp.callee,Ywh,Ywj]at hcl
      obtain⟨rfl,rfl⟩:=hcl
      obtain⟨g1,g2⟩:=yir (fun x pa h'=>ybf (G:=G) h.gl h.fr h') hl
      refine⟨c.args.toList.map a.eval,by simpa using g1,g2,?_⟩
      simp only[execOp,resolve,hcal]
      have:(c.args.toList.map a.eval).toArray=c.args.map a.eval:=by
       apply Array.ext'
       simp
      rw[this]
      show(do let d ← (pure {target:=Target.fn (Fn.func f') #[],args:=#[]++c.args.map a.eval}:Sem Deferred); invoke d.target d.args)=_
      simp only[Array.empty_append]
      show invoke (Target.fn (Fn.func f') #[]) (c.args.map a.eval)=_
      simp[invoke]
     ·subst h1; simp[POp.callee]at hcl
   ·rename_i x hnf hcal
    split at h1
    case h_2=>cases h1
    rename_i pa l hpa hl
    simp only[Ywh]at h1; subst h1
    exact ywf (fun x pa h'=>ybf (G:=G) h.gl h.fr h') hcal hpa hl hcl
   ·cases h1
  |_=>
   exfalso; revert h1; simp only[trOp,Yc9,yN4,yD4]
   repeat' split
   all_goals first
    |(intro h1; cases h1; done)
    |(intro h1; cases h1; cases hcl; done)
    |(intro h1; simp only[Ywh]at h1; subst h1; simp[POp.callee]at hcl; done)
    |(intro h1; simp only[Ywi]at h1; obtain⟨_,_,h1⟩:=h1; subst h1; simp[POp.callee]at hcl; done)
    |(intro _; contradiction)
 obtain⟨c,e1,vs,g1,g2,g3⟩:=hinv
 refine yhq (fun c' e=>by rw[e1]at e; cases e) ?_
 refine yTe (hT.x f sp hsp) h.sr h.gl (ds:=ds) (vs:=vs) hx g1 g2 g3 ?_
 intro w' g' hgo
 exact hQ w' ⟨g',h.go hgo (h.fr.mono hgo.im hgo.evo) rfl h.sz⟩
theorem yzw(hT:TblOK P G T)(hY:YOK P G T.y base w0 g0 st0){ops:Array Oper}{Q:Exit→Act→World→Prop}{t:Nat}{d:D}:∀ (l:List Oper) (is:List PI) (s s':PS) (a:Act) (w:World),ysb P il n ops l=some is→yhn G T is s=some (t,d,s')→R G base n w0 g0 st0 dl s a w→
  (∀ a' w',R G base n w0 g0 st0 dl s' a' w'→Q (.panic (yh4 t d)) a' w')→wpListIn (Wr r) 0 P ops Q l a w
 |[],is,s,s',a,w,ht,hx,hR,hQ=>by
  simp[ysb]at ht; subst ht
  simp[yhn]at hx
 |[o],is,s,s',a,w,ht,hx,hR,hQ=>by
  simp only[ysb,Ywi]at ht
  obtain⟨i,h1,rfl⟩:=ht
  simp only[yhn]at hx
  split at hx
  ·cases hx
  ·obtain⟨k1,k2⟩:=yyz (r:=r) (ops:=ops) (K:=wpListIn (Wr r) 0 P ops Q []) hT hR h1 hx (fun w' hR'=>hQ a w' hR')
   simp only[wpListIn,k1,if_true]
   exact k2
 |o1::o2::l,is,s,s',a,w,ht,hx,hR,hQ=>by
  unfold ysb at ht
  split at ht
  ·rename_i i1 i2 hp
   simp only[Ywi]at ht
   obtain⟨is',h2,rfl⟩:=ht
   simp only[yhn]at hx
   obtain⟨t',e,len,parts,d1,p,q1,q2,q3,hu,hu8,hd1,hd2,hg1,hg2,hp',rfl,rfl⟩:=yyu hp
   split at hx
   case h_2=>
    exfalso
    simp only[PI.execX,PI.wanted,Ywi]at hx
    obtain⟨r,hx,_⟩:=hx
    unfold POp.execX at hx
    split at hx
    case h_2=>cases hx
    rename_i f ds hcl
    simp only[trOp]at hp'
    repeat' split at hp'
    all_goals first | (cases hp'; done) | (cases hp'; cases hcl; done) | (simp only[Ywh]at hp'; subst hp'; simp[POp.callee]at hcl; done)
   rename_i s1 hs1
   split at hx
   case h_2=>
    exfalso
    simp[PI.execX,PI.wanted,POp.execX,POp.callee]at hx
   rename_i s2 hs2
   obtain⟨e1,e2,e3⟩:=yO1 (r:=r) (ops:=ops) (Q:=Q) (K:=wpListIn (Wr r) 0 P ops Q l) hR hp hs1 hs2 (fun a' w' hR'=>yzw hT hY l is' s2 s' a' w' h2 hx hR' hQ)
   simp only[wpListIn,e1,e2,if_true]
   exact e3
  ·split at ht
   ·rename_i i is' h1 h2
    simp only[Ywh]at ht; subst ht
    simp only[yhn]at hx
    split at hx
    ·rename_i s1 hs1
     exact ytu hT hY hR h1 hs1 fun a' w' hR'=>yzw hT hY (o2::l) is' s1 s' a' w' h2 hx hR' hQ
    ·obtain⟨k1,k2⟩:=yyz (r:=r) (ops:=ops) (K:=wpListIn (Wr r) 0 P ops Q (o2::l)) hT hR h1 hx (fun w' hR'=>hQ a w' hR')
     simp only[wpListIn,k1,if_true]
     exact k2
   ·cases ht
theorem Ymf{ops:Array Oper}{o1 o2:Oper}{t d1:Nat}{xo:Operand}{x:PA}{s:PS}{a:Act}{w:World}{Q:Exit→Act→World→Prop}(hR:R G base n w0 g0 st0 dl s a w)(h1:o1.op=.makeInterface t xo)(h3:o1.dst=some d1)(h2:o2.op=.panic (.tmp d1))(hd1:d1<n)
  (hg1:o1.guard=none) (hg2:o2.guard=none) {u:TypeDesc} (hu:P.underlying t=some u) (hne:∀ m,u≠.interface m) (hx:trA xo=some x) (hi:yv6 (rho G s.fr x)=true)
  (hQ:∀ a',R G base n w0 g0 st0 dl ⟨s.fr.set d1 .junk,s.st⟩ a' w→Q (.panic (yh4 t (rho G s.fr x))) a' w):wpListIn (Wr r) 0 P ops Q [o1,o2] a w:=by
 obtain⟨g,h⟩:=hR
 have hv:=yU3 (ybf (G:=G) h.gl h.fr hx) hi
 have hlt:d1<a.tmps.size:=Nat.lt_of_lt_of_le hd1 h.sz
 obtain⟨dst1,op1,ty1,pos1,after1,guard1⟩:=o1
 obtain⟨dst2,op2,ty2,pos2,after2,guard2⟩:=o2
 simp only at h1 h2 h3 hg1 hg2
 subst h1; subst h2; subst h3; subst hg1; subst hg2
 have w1:∀ tm,Region.wanted ({dst:=some d1,op:=.makeInterface t xo,type:=ty1,pos:=pos1,after:=after1,guard:=none}:Oper) (yielded ops tm)=true:=fun tm=>by simp[Region.wanted]
 have w2:∀ tm,Region.wanted ({dst:=dst2,op:=.panic (.tmp d1),type:=ty2,pos:=pos2,after:=after2,guard:=none}:Oper) (yielded ops tm)=true:=fun tm=>by simp[Region.wanted]
 simp only[wpListIn,w1,w2,if_true]
 refine yhq (fun c e=>by cases e) ?_
 unfold Oper.wp
 have hrun1:(execOp a.eval {dst:=some d1,op:=.makeInterface t xo,type:=ty1,pos:=pos1,after:=after1,guard:=none}).run P w=.ok (.value (.iface t (yf0 (rho G s.fr x)))) w:=by
  simp only[execOp,hv,Sem.run_bind,Instr.makeInterface,run_underlying hu,Result.andThen_ok]
  cases u <;> first | rfl | exact absurd rfl (hne _)
 rw[hrun1,Oper.upon_value]
 refine yhq (fun c e=>by cases e) ?_
 unfold Oper.wp
 have hev:(a.put (some d1) (.iface t (yf0 (rho G s.fr x)))).eval (.tmp d1)=.iface t (yf0 (rho G s.fr x)):=by
  simp[Act.eval,Act.put,hlt]
 have hrun2:(execOp (a.put (some d1) (.iface t (yf0 (rho G s.fr x)))).eval {dst:=dst2,op:=.panic (.tmp d1),type:=ty2,pos:=pos2,after:=after2,guard:=none}).run P w=.halt (.panic (.iface t (yf0 (rho G s.fr x)))) w:=by
  simp only[execOp,hev,Sem.run_bind,Instr.panic]
  rfl
 rw[hrun2,Oper.upon_panic]
 refine hQ _ ⟨g,h.go (Go1.refl h.sr) ?_ (ye3 ..) (by rw[ynq]; exact h.sz)⟩
 exact h.fr.put (dst:=some d1) (fun t e=>by cases e; exact hlt) (.junk _)
theorem ytr{ops:Array Oper}:∀ {l:List Oper} {is:List PI},trIs P il n ops l=some is→is.length=l.length∧∀ (k:Nat) o,l[k]?=some o→∃ i,is[k]?=some i∧trI P il n ops o=some i
 |[],is,h=>by simp[trIs]at h; subst h; exact⟨rfl,fun k o h=>by simp at h⟩
 |o::l,is,h=>by
  unfold trIs at h
  split at h
  ·rename_i i is' h1 h2
   simp only[Ywh]at h; subst h
   obtain⟨e1,e2⟩:=ytr h2
   refine⟨by simp[e1],fun k o' hk=>?_⟩
   cases k with
   |zero=>simp at hk; subst hk; exact⟨i,rfl,h1⟩
   |succ k=>simp at hk; simpa using e2 k o' hk
  ·cases h
theorem ywt:∀ (l:List Oper) (acc:List Nat),∃ r,ycr l acc=acc++r
 |[],acc=>⟨[],by simp[ycr]⟩
 |o::l,acc=>by
  obtain⟨r,h⟩:=ywt l (acc++[(ykg o).foldl (fun m e=>m ||| (1 <<< e) ||| acc.getD e 0) 0])
  exact⟨_,by rw[ycr,h,List.append_assoc]⟩
theorem yCz(acc:List Nat)(j:Nat):∀ (l:List Nat) (m:Nat),(l.foldl (fun m e=>m ||| (1 <<< e) ||| acc.getD e 0) m).testBit j=true→m.testBit j=true∨∃ e∈l,j=e∨(acc.getD e 0).testBit j=true
 |[],m,h=>.inl h
 |e::l,m,h=>by
  rcases yCz acc j l _ h with h1 | ⟨e',h1,h2⟩
  ·simp only[Nat.testBit_or,Bool.or_eq_true]at h1
   rcases h1 with(h1 | h1) | h1
   ·exact .inl h1
   ·refine .inr ⟨e,by simp,.inl ?_⟩
    rw[Nat.one_shiftLeft,Nat.testBit_two_pow]at h1
    exact(by simpa using h1:e=j).symm
   ·exact .inr ⟨e,by simp,.inr h1⟩
  ·exact .inr ⟨e',by simp[h1],h2⟩
theorem yCo:∀ (l:List Oper) (acc:List Nat) (i j:Nat) (o:Oper),l[i]?=some o→((ycr l acc).getD (acc.length+i) 0).testBit j=true→
  ∃ e∈ykg o,j=e∨(e<acc.length+i∧((ycr l acc).getD e 0).testBit j=true)
 |[],acc,i,j,o,h,_=>by simp at h
 |o'::l,acc,i,j,o,h,hb=>by
  cases i with
  |zero=>
   simp only[List.getElem?_cons_zero,Ywh]at h
   subst h
   obtain⟨r,hr⟩:=ywt l (acc++[(ykg o').foldl (fun m e=>m ||| (1 <<< e) ||| acc.getD e 0) 0])
   rw[ycr,hr]at hb ⊢
   rw[Nat.add_zero,List.append_assoc]at hb
   simp only[List.getD_eq_getElem?_getD,List.singleton_append,List.getElem?_append_right (Nat.le_refl _),Nat.sub_self,List.getElem?_cons_zero,Option.getD_some]at hb
   rcases yCz acc j _ 0 (by simpa[List.getD_eq_getElem?_getD]using hb)with h1 | ⟨e,h1,h2⟩
   ·simp at h1
   ·refine⟨e,h1,?_⟩
    rcases h2 with h2 | h2
    ·exact .inl h2
    ·have hlt:e<acc.length:=by
      rcases Nat.lt_or_ge e acc.length with h3 | h3
      ·exact h3
      ·simp[List.getD_eq_getElem?_getD,List.getElem?_eq_none h3]at h2
     refine .inr ⟨by omega,?_⟩
     rw[List.append_assoc,List.getD_eq_getElem?_getD,List.getElem?_append_left hlt,← List.getD_eq_getElem?_getD]
     exact h2
  |succ i=>
   simp only[List.getElem?_cons_succ]at h
   have:=yCo l (acc++[(ykg o').foldl (fun m e=>m ||| (1 <<< e) ||| acc.getD e 0) 0]) i j o h
   simp only[List.length_append,List.length_singleton]at this
   rw[show acc.length+1+i=acc.length+(i+1) by omega]at this
   exact this hb
def yr2(ops:List Oper)(listed:Array Bool):Prop:=∀ (i:Nat) o,ops[i]?=some o→listed.getD i false=true→∀ e∈ykg o,listed.getD e false=true
theorem ysp{ops:List Oper}{listed:Array Bool}(hc:yr2 ops listed):∀ (i:Nat) o,ops[i]?=some o→(∀ e∈ykg o,listed.getD e false=true)→∀ j,((ycr ops []).getD i 0).testBit j=true→listed.getD j false=true:=by
 intro i
 induction i using Nat.strongRecOn with
 |_ i ih=>
  intro o ho hd j hj
  obtain⟨e,he,h1⟩:=yCo ops [] i j o ho (by simpa using hj)
  rcases h1 with rfl | ⟨h1,h2⟩
  ·exact hd _ he
  ·simp only[List.length_nil,Nat.zero_add]at h1
   have hel:=hd e he
   cases hoe:ops[e]? with
   |none=>
    have:ops.length≤e:=List.getElem?_eq_none_iff.1 hoe
    have:i<ops.length:=(List.getElem?_eq_some_iff.1 ho).1
    omega
   |some oe=>exact ih e h1 oe hoe (hc e oe hoe hel) j h2
def ybd(m:Nat)(listed:Array Bool):List Nat:=(List.range m).filter fun i=>!listed.getD i true
theorem yod{ms:List Nat}{l:List PI}(h:yye ms l=true){i j:Nat}{x y:PI}(hx:l[j]?=some x)(hy:l[i]?=some y)(hij:j<i)(hm:(ms.getD i 0).testBit j=false):x.apart y=true:=by
 simp only[yye,List.all_eq_true]at h
 have h1:=h (y,i) (by rw[List.mk_mem_zipIdx_iff_getElem?]; exact hy)
 have h2:=h1 (x,j) (by rw[List.mk_mem_zipIdx_iff_getElem?,List.getElem?_take,if_pos hij]; exact hx)
 simp only[hm,Bool.false_or]at h2
 exact h2
theorem ywz{p:Nat→Bool}:∀ (m i:Nat),i<m→p i=true→∃ l r,(List.range m).filter p=l++i::r∧(∀ j∈l,j<i∧p j=true)∧(List.range m).filter (fun j=>p j && j != i)=l++r:=by
 intro m i hi hp
 refine⟨(List.range i).filter p,((List.range' (i+1) (m - (i+1))).filter p),?_,?_,?_⟩
 ·have:List.range m=List.range i++(i::List.range' (i+1) (m - (i+1))):=by
   rw[List.range_eq_range',List.range_eq_range',← List.range'_succ,show m - (i+1)+1=m - i by omega]
   have:=List.range'_append_1 (s:=0) (m:=i) (n:=m - i)
   simp only[Nat.zero_add]at this
   rw[this]; congr 1; omega
  rw[this,List.filter_append,List.filter_cons,if_pos hp]
 ·intro j hj
  simp only[List.mem_filter,List.mem_range]at hj
  exact hj
 ·have:List.range m=List.range i++(i::List.range' (i+1) (m - (i+1))):=by
   rw[List.range_eq_range',List.range_eq_range',← List.range'_succ,show m - (i+1)+1=m - i by omega]
   have:=List.range'_append_1 (s:=0) (m:=i) (n:=m - i)
   simp only[Nat.zero_add]at this
   rw[this]; congr 1; omega
  rw[this,List.filter_append,List.filter_cons]
  simp only[bne_self_eq_false,Bool.and_false,Bool.false_eq_true,if_false]
  congr 1
  ·apply List.filter_congr
   intro j hj
   simp only[List.mem_range]at hj
   have:j≠i:=by omega
   simp[this]
  ·apply List.filter_congr
   intro j hj
   simp only[List.mem_range'_1]at hj
   have:j≠i:=by omega
   simp[this]
theorem yQv(hT:TblOK P G T)(hY:YOK P G T.y base w0 g0 st0){ops:Array Oper}{Q:Exit→Act→World→Prop}{is:List PI}(ht:trIs P il n ops ops.toList=some is)(hlex:ynw ops.toList=true)(Inv:Array Bool→PS→Prop)
  (hstep:∀ (listed:Array Bool) (s:PS) (i:Nat) (o:Oper),listed.size=ops.size→yr2 ops.toList listed→Inv listed s→ops.toList[i]?=some o→i<ops.size→listed.getD i true=false→(∀ e∈ykg o,listed.getD e false=true)→
   (∃ s1,(is.getD i default).exec G T s=some s1∧Inv (listed.setIfInBounds i true) s1)∨∃ t d s1,(is.getD i default).execX G T s=some (t,d,s1)∧∀ a' w',R G base n w0 g0 st0 dl s1 a' w'→Q (.panic (yh4 t d)) a' w')
  (hfin:∀ (listed:Array Bool) (s:PS),ybd ops.size listed=[]→Inv listed s→∀ a' w',R G base n w0 g0 st0 dl s a' w'→Q .normal a' w') :
  ∀ (fuel:Nat) (listed:Array Bool) (s:PS) (a:Act) (w:World),listed.size=ops.size→(ybd ops.size listed).length≤fuel→yr2 ops.toList listed→Inv listed s→R G base n w0 g0 st0 dl s a w→
  wpAnyIn (Wr r) 0 P .any ops Q fuel listed a w:=by
 obtain⟨hlen,hget⟩:=ytr ht
 have hlen':is.length=ops.size:=by simpa using hlen
 have hready:∀ (listed:Array Bool) (i:Nat),i∈Region.ready .any ops listed↔i∈ybd ops.size listed∧∀ o,ops.toList[i]?=some o→∀ e∈ykg o,listed.getD e false=true:=by
  intro listed i
  simp only[Region.ready,ybd,List.mem_filter,List.mem_range,Bool.and_eq_true]
  constructor
  ·rintro⟨h1,h2,h3⟩
   refine⟨⟨h1,h2⟩,fun o ho e he=>?_⟩
   rw[Array.getElem?_toList]at ho
   simp only[ho,Option.map_some,Option.getD_some]at h3
   simp only[ykg,List.mem_map,List.mem_filter,Array.mem_toList_iff]at he
   obtain⟨ed,⟨h4,h5⟩,rfl⟩:=he
   have:=Array.all_eq_true'.1 h3 ed h4
   simpa[h5]using this
  ·rintro⟨⟨h1,h2⟩,h3⟩
   refine⟨h1,h2,?_⟩
   have ho:ops.toList[i]?=some ops[i]:=by rw[Array.getElem?_toList,Array.getElem?_eq_getElem h1]
   rw[Array.getElem?_eq_getElem h1]
   simp only[Option.map_some,Option.getD_some]
   refine Array.all_eq_true'.2 fun ed hed=>?_
   by_cases hb:Region.binds .any ed=true
   ·have:=h3 _ ho ed.on (by simp only[ykg,List.mem_map,List.mem_filter,Array.mem_toList_iff]; exact⟨ed,⟨hed,hb⟩,rfl⟩)
    simp[this]
   ·simp[hb]
 have hsome:∀ (listed:Array Bool),ybd ops.size listed≠[]→Region.ready .any ops listed≠[]:=by
  intro listed hne hr
  obtain⟨i,r,hir⟩:=List.exists_cons_of_ne_nil hne
  have hi:i∈ybd ops.size listed:=by rw[hir]; simp
  have hi':i<ops.size∧listed.getD i true=false:=by
   simp only[ybd,List.mem_filter,List.mem_range,Bool.not_eq_true']at hi; exact hi
  have hmin:∀ e,e<i→listed.getD e true=true:=by
   intro e he
   by_cases h:listed.getD e true=true
   ·exact h
   ·exfalso
    obtain⟨l,r',h1,h2,_⟩:=ywz (p:=fun i=>!listed.getD i true) ops.size e (by omega) (by simpa using h)
    have h3:l++e::r'=i::r:=by rw[← h1]; exact hir
    cases l with
    |nil=>simp at h3; omega
    |cons x l=>
     simp at h3
     have:=(h2 x (by simp)).1
     omega
  have:i∈Region.ready .any ops listed:=by
   rw[hready]
   refine⟨hi,fun o ho e he=>?_⟩
   have hlt:e<i:=by
    simp only[ynw,List.all_eq_true]at hlex
    have h1:=hlex (o,i) (by rw[List.mk_mem_zipIdx_iff_getElem?]; exact ho)
    simpa using h1 e he
   have h1:=hmin e hlt
   rcases Nat.lt_or_ge e listed.size with h2 | h2
   ·simpa[Array.getD,h2]using h1
   ·exfalso
    have:listed.getD i true=true:=by
     have:¬ i<listed.size:=by omega
     simp[Array.getD,this]
    rw[this]at hi'; cases hi'.2
  rw[hr]at this
  cases this
 intro fuel
 induction fuel with
 |zero=>
  intro listed s a w hsz hl hc hx hR
  have h0:ybd ops.size listed=[]:=List.eq_nil_of_length_eq_zero (by omega)
  refine⟨?_,hfin listed s h0 hx a w hR⟩
  apply List.eq_nil_iff_forall_not_mem.2
  intro i hi
  have:=((hready listed i).1 hi).1
  rw[h0]at this; cases this
 |succ fuel ih=>
  intro listed s a w hsz hl hc hx hR
  refine⟨fun hr=>?_,fun i hi=>?_⟩
  ·have h0:ybd ops.size listed=[]:=by
    by_cases h:ybd ops.size listed=[]
    ·exact h
    ·exact absurd hr (hsome listed h)
   exact hfin listed s h0 hx a w hR
  ·obtain⟨hi1,hi2⟩:=(hready listed i).1 hi
   have hi':i<ops.size∧listed.getD i true=false:=by
    simp only[ybd,List.mem_filter,List.mem_range,Bool.not_eq_true']at hi1; exact hi1
   have ho:ops.toList[i]?=some ops[i]:=by rw[Array.getElem?_toList,Array.getElem?_eq_getElem hi'.1]
   obtain⟨pi,hpi,htr⟩:=hget i _ ho
   have hpi':is.getD i default=pi:=by simp[List.getD_eq_getElem?_getD,hpi]
   rcases hstep listed s i _ hsz hc hx ho hi'.1 hi'.2 (hi2 _ ho)with⟨s1,hs1,hs2⟩ | ⟨t,d,s1,hs1,hs2⟩
   rotate_left
   ·rw[hpi']at hs1
    obtain⟨k1,k2⟩:=yyz (r:=r) (Q:=Q) (ops:=ops) (K:=wpAnyIn (Wr r) 0 P .any ops Q fuel (listed.setIfInBounds i true)) hT hR htr hs1 (fun w' hR'=>hs2 a w' hR')
    unfold wpOpIn
    rw[Array.getElem?_eq_getElem hi'.1]
    simp only[k1,if_true]
    exact k2
   rw[hpi']at hs1
   have hset:∀ q,(listed.setIfInBounds i true).getD q false=true↔q=i∨listed.getD q false=true:=by
    intro q
    by_cases hqi:q=i
    ·subst hqi
     have:q<listed.size:=by omega
     simp[Array.getD,this]
    ·rcases Nat.lt_or_ge q listed.size with h5 | h5
     ·simp[Array.getD,h5,hqi,show ¬ i=q by omega]
     ·simp[Array.getD,Nat.not_lt.2 h5,hqi]
   have hstep2:=ytu (r:=r) (Q:=Q) (ops:=ops) (K:=wpAnyIn (Wr r) 0 P .any ops Q fuel (listed.setIfInBounds i true)) hT hY hR htr hs1 (fun a' w' hR'=>by
    refine ih (listed.setIfInBounds i true) s1 a' w' (by simp[hsz]) ?_ ?_ hs2 hR'
    ·obtain⟨l,r,h1,h2,h3⟩:=ywz (p:=fun i=>!listed.getD i true) ops.size i hi'.1 (by simpa using hi'.2)
     have hnext:ybd ops.size (listed.setIfInBounds i true)=l++r:=by
      rw[← h3]
      simp only[ybd]
      apply List.filter_congr
      intro j hj
      by_cases hji:j=i
      ·subst hji
       have:j<listed.size:=by omega
       simp[Array.getD,this]
      ·rcases Nat.lt_or_ge j listed.size with h5 | h5
       ·simp[Array.getD,h5,hji,show ¬ i=j by omega]
       ·simp[Array.getD,Nat.not_lt.2 h5]
     have h1':ybd ops.size listed=l++i::r:=h1
     rw[hnext]
     rw[h1']at hl
     simp at hl ⊢
     omega
    ·intro k o' hk hkl e he
     rw[hset]at hkl ⊢
     refine .inr ?_
     rcases hkl with rfl | hkl
     ·exact hi2 o' hk e he
     ·exact hc k o' hk hkl e he)
   unfold wpOpIn
   rw[Array.getElem?_eq_getElem hi'.1]
   exact hstep2
theorem Yci(hT:TblOK P G T)(hY:YOK P G T.y base w0 g0 st0){ops:Array Oper}{Q:Exit→Act→World→Prop}{is:List PI}(ht:trIs P il n ops ops.toList=some is)(hlex:ynw ops.toList=true)(Inv:Array Bool→PS→Prop)
  (hstep:∀ (listed:Array Bool) (s:PS) (i:Nat) (o:Oper),listed.size=ops.size→yr2 ops.toList listed→Inv listed s→ops.toList[i]?=some o→i<ops.size→listed.getD i true=false→(∀ e∈ykg o,listed.getD e false=true)→
   ∃ s1,(is.getD i default).exec G T s=some s1∧Inv (listed.setIfInBounds i true) s1)
  (hfin:∀ (listed:Array Bool) (s:PS),ybd ops.size listed=[]→Inv listed s→∀ a' w',R G base n w0 g0 st0 dl s a' w'→Q .normal a' w') :
  ∀ (fuel:Nat) (listed:Array Bool) (s:PS) (a:Act) (w:World),listed.size=ops.size→(ybd ops.size listed).length≤fuel→yr2 ops.toList listed→Inv listed s→R G base n w0 g0 st0 dl s a w→
  wpAnyIn (Wr r) 0 P .any ops Q fuel listed a w:=
 yQv hT hY ht hlex Inv (fun listed s i o h1 h2 h3 h4 h5 h6 h7=>.inl (hstep listed s i o h1 h2 h3 h4 h5 h6 h7)) hfin
theorem yXb:∀ (l m:List Nat),l.Nodup→(∀ x∈l,x∈m)→m.length≤l.length→l.Perm m
 |[],m,_,_,h=>by
  have:m=[]:=List.length_eq_zero_iff.1 (by simpa using h)
  rw[this]
 |a::l,m,hn,hs,h=>by
  have ha:a∈m:=hs a (by simp)
  have hp:=List.perm_cons_erase ha
  have hn2:=List.nodup_cons.1 hn
  have ih:=yXb l (m.erase a) hn2.2 (fun x hx=>by
   have hxm:x∈a::m.erase a:=hp.mem_iff.1 (hs x (by simp[hx]))
   rcases List.mem_cons.1 hxm with e | e
   ·exact absurd (e ▸ hx) hn2.1
   ·exact e) (by
   have:=hp.length_eq
   simp at this h
   omega)
  exact(List.Perm.cons a ih).trans hp.symm
def Zof(is:List PI)(Z:List (Nat×Option Foot)):List (PI×Option Foot):=Z.map fun z=>(is.getD z.1 default,z.2)
def yb6(listed:Array Bool)(Z:List (Nat×Option Foot)):List (Nat×Option Foot):=Z.filter fun z=>!listed.getD z.1 true
def ZOK(ms:List Nat)(is:List PI)(m:Nat)(bad:Option (Nat×Nat))(Z:List (Nat×Option Foot)):Prop:=
 (Z.map (·.1)).Nodup∧(∀ k,k<m→∃ f,(k,f)∈Z)∧
  Z.Pairwise fun x y=>(ms.getD y.1 0).testBit x.1=false→bad≠some (x.1,y.1)→Pair (is.getD x.1 default,x.2) (is.getD y.1 default,y.2)
theorem yKr{ops:Array Oper}{is:List PI}{bad:Option (Nat×Nat)}{Z:List (Nat×Option Foot)}{m:Nat}(hZ:ZOK (ycr ops.toList []) is m bad Z){listed:Array Bool}{s sf:PS}{i:Nat}{o:Oper}
  (hsz:listed.size=ops.size) (hc:yr2 ops.toList listed) (hr:Run G T (Zof is (yb6 listed Z)) s sf) (ho:ops.toList[i]?=some o) (hi:i<ops.size) (him:i<m) (hil:listed.getD i true=false) (hd:∀ e∈ykg o,listed.getD e false=true)
  (hb:∀ j,listed.getD j true=false→bad≠some (j,i)):∃ s1,(is.getD i default).exec G T s=some s1∧Run G T (Zof is (yb6 (listed.setIfInBounds i true) Z)) s1 sf:=by
 obtain⟨z1,z2,z3⟩:=hZ
 obtain⟨f,hf⟩:=z2 i him
 have hmem:(i,f)∈yb6 listed Z:=by
  simp only[yb6,List.mem_filter]
  exact⟨hf,by simp[hil]⟩
 obtain⟨l,r,hlr⟩:=List.append_of_mem hmem
 have hpw:(yb6 listed Z).Pairwise fun x y=>((ycr ops.toList []).getD y.1 0).testBit x.1=false→bad≠some (x.1,y.1)→Pair (is.getD x.1 default,x.2) (is.getD y.1 default,y.2):=z3.filter _
 rw[hlr]at hpw
 have hlist:∀ x∈l,listed.getD x.1 true=false:=by
  intro x hx
  have:x∈yb6 listed Z:=by rw[hlr]; simp[hx]
  simp only[yb6,List.mem_filter,Bool.not_eq_true']at this
  exact this.2
 have hpair:∀ x∈Zof is l,Pair x (is.getD i default,f):=by
  intro x hx
  simp only[Zof,List.mem_map]at hx
  obtain⟨z,hz,rfl⟩:=hx
  have h1:=(List.pairwise_append.1 hpw).2.2 z hz (i,f) (by simp)
  have h2:=hlist z hz
  refine h1 ?_ (hb _ h2)
  cases hbt:((ycr ops.toList []).getD i 0).testBit z.1 with
  |false=>rfl
  |true=>
   have h4:=ysp hc i _ ho hd z.1 hbt
   rcases Nat.lt_or_ge z.1 listed.size with h5 | h5
   ·simp[Array.getD,h5]at h4 h2
    rw[h4]at h2; cases h2
   ·simp[Array.getD,Nat.not_lt.2 h5]at h4
 have hZl:Zof is (yb6 listed Z)=Zof is l++(is.getD i default,f)::Zof is r:=by rw[hlr]; simp[Zof]
 rw[hZl]at hr
 obtain⟨s1,h1,_,h2⟩:=Yst _ _ s sf hpair hr
 refine⟨s1,h1,?_⟩
 have hnd:((yb6 listed Z).map (·.1)).Nodup:=List.Nodup.sublist (List.Sublist.map _ (List.filter_sublist ..)) z1
 rw[hlr,List.map_append,List.map_cons]at hnd
 have hne:∀ z∈l++r,z.1≠i:=by
  intro z hz he
  have h3:=List.nodup_append.1 hnd
  rcases List.mem_append.1 hz with hz | hz
  ·exact h3.2.2 z.1 (List.mem_map_of_mem hz) i (by simp) he
  ·have:=(List.nodup_cons.1 h3.2.1).1
   have hzm:z.1∈r.map (·.1):=List.mem_map_of_mem hz
   rw[he]at hzm
   exact this hzm
 have hrest:yb6 (listed.setIfInBounds i true) Z=l++r:=by
  have e1:yb6 (listed.setIfInBounds i true) Z=(yb6 listed Z).filter fun z=>z.1 != i:=by
   simp only[yb6,List.filter_filter]
   apply List.filter_congr
   intro z _
   by_cases hzi:z.1=i
   ·have:i<listed.size:=by omega
    simp[hzi,Array.getD,this]
   ·rcases Nat.lt_or_ge z.1 listed.size with h5 | h5
    ·simp[Array.getD,h5,hzi,show ¬ i=z.1 from fun e=>hzi e.symm]
    ·simp[Array.getD,Nat.not_lt.2 h5]
  rw[e1,hlr,List.filter_append,List.filter_cons]
  simp only[bne_self_eq_false,Bool.false_eq_true,if_false]
  rw[List.filter_eq_self.2 (fun z hz=>by simpa using hne z (List.mem_append_left _ hz)),List.filter_eq_self.2 (fun z hz=>by simpa using hne z (List.mem_append_right _ hz))]
 rw[hrest]
 simpa[Zof]using h2
theorem yoc{ops:Array Oper}{is:List PI}{bad:Option (Nat×Nat)}{Z:List (Nat×Option Foot)}(hZ:ZOK (ycr ops.toList []) is ops.size bad Z){listed:Array Bool}{s sf:PS}{i:Nat}{o:Oper}
  (hsz:listed.size=ops.size) (hc:yr2 ops.toList listed) (hr:Run G T (Zof is (yb6 listed Z)) s sf) (ho:ops.toList[i]?=some o) (hi:i<ops.size) (hil:listed.getD i true=false) (hd:∀ e∈ykg o,listed.getD e false=true)
  (hb:∀ j,listed.getD j true=false→bad≠some (j,i)):∃ s1,(is.getD i default).exec G T s=some s1∧Run G T (Zof is (yb6 (listed.setIfInBounds i true) Z)) s1 sf:=
 yKr hZ hsz hc hr ho hi hi hil hd hb
theorem yE1{ops:Array Oper}{is:List PI}{Z:List (Nat×Option Foot)}{listed:Array Bool}(hZ:∀ z∈Z,z.1<ops.size)(h0:ybd ops.size listed=[]):Zof is (yb6 listed Z)=[]:=by
 have:yb6 listed Z=[]:=by
  simp only[yb6,List.filter_eq_nil_iff,Bool.not_eq_true']
  intro z hz hl
  have h1:z.1∈ybd ops.size listed:=by
   simp only[ybd,List.mem_filter,List.mem_range]
   exact⟨hZ z hz,by simpa using hl⟩
  rw[h0]at h1; cases h1
 rw[this]; rfl
theorem Yiv(hT:TblOK P G T)(hY:YOK P G T.y base w0 g0 st0){ops:Array Oper}{Q:Exit→Act→World→Prop}{is:List PI}(ht:trIs P il n ops ops.toList=some is)(hlex:ynw ops.toList=true){Z:List (Nat×Option Foot)}(hZ:ZOK (ycr ops.toList []) is ops.size none Z)(hZ2:∀ z∈Z,z.1<ops.size)
  {sf:PS} (hQ:∀ a' w',R G base n w0 g0 st0 dl sf a' w'→Q .normal a' w') (fuel:Nat) (listed:Array Bool) (s:PS) (a:Act) (w:World) (hsz:listed.size=ops.size) (hl:(ybd ops.size listed).length≤fuel) (hc:yr2 ops.toList listed) (hr:Run G T (Zof is (yb6 listed Z)) s sf) (hR:R G base n w0 g0 st0 dl s a w) :
  wpAnyIn (Wr r) 0 P .any ops Q fuel listed a w:=by
 refine Yci hT hY ht hlex (fun listed s=>Run G T (Zof is (yb6 listed Z)) s sf) ?_ ?_ fuel listed s a w hsz hl hc hr hR
 ·intro listed s i o h1 h2 h3 h4 h5 h6 h7
  exact yoc hZ h1 h2 h3 h4 h5 h6 h7 (fun j _ h=>by cases h)
 ·intro listed s h0 h1
  rw[yE1 hZ2 h0]at h1
  simp only[Run]at h1
  subst h1
  exact hQ
theorem yC2:∀ (l:List PI) (s:PS) {t:Nat} {d:D} {s':PS},yhn G T l s=some (t,d,s')→∃ i s1,i<l.length∧ycg G T (l.take i) s=some s1∧(l.getD i default).execX G T s1=some (t,d,s')
 |[],s,t,d,s',h=>by simp[yhn]at h
 |i::l,s,t,d,s',h=>by
  simp only[yhn]at h
  split at h
  ·rename_i s1 hs1
   obtain⟨k,s2,h1,h2,h3⟩:=yC2 l s1 h
   refine⟨k+1,s2,by simp; omega,?_,by simpa using h3⟩
   simp only[List.take_succ_cons,ycg,hs1]
   exact h2
  ·exact⟨0,s,by simp,rfl,by simpa using h⟩
theorem yZ9{i:PI}{s:PS}{r:Nat×D×PS}(h:i.execX G T s=some r):mayX i.op=true:=by
 unfold PI.execX at h
 split at h
 case h_2=>cases h
 simp only[Ywi]at h
 obtain⟨x,h,_⟩:=h
 unfold POp.execX at h
 split at h
 case h_2=>cases h
 rename_i f ds hc
 unfold POp.callee at hc
 split at hc
 ·rename_i e; rw[e]; rfl
 ·rename_i e; rw[e]; rfl
 ·cases hc
theorem yXg{ms:List Nat}{l:List PI}(h:ordX ms l=true){i:Nat}(hi:i<l.length)(hm:mayX (l.getD i default).op=true):(∀ j,j<i→(ms.getD i 0).testBit j=true)∧∀ j,i<j→j<l.length→(ms.getD j 0).testBit i=true:=by
 simp only[ordX,List.all_eq_true]at h
 have hg:l[i]?=some (l.getD i default):=by simp[List.getD_eq_getElem?_getD,hi]
 have h1:=h (l.getD i default,i) (by rw[List.mk_mem_zipIdx_iff_getElem?]; exact hg)
 simp only[hm,Bool.not_true,Bool.false_or,List.all_eq_true,List.mem_range,Bool.or_eq_true,beq_iff_eq]at h1
 refine⟨fun j hj=>?_,fun j hj hl=>?_⟩
 ·rcases h1 j (by omega)with e | e
  ·omega
  ·rwa [if_pos hj]at e
 ·rcases h1 j hl with e | e
  ·omega
  ·rwa [if_neg (by omega)]at e
theorem yKq(hT:TblOK P G T)(hY:YOK P G T.y base w0 g0 st0){ops:Array Oper}{Q:Exit→Act→World→Prop}{is:List PI}(ht:trIs P il n ops ops.toList=some is)(hlex:ynw ops.toList=true){i0:Nat}(hi0:i0<is.length)(o1:∀ j,j<i0→((ycr ops.toList []).getD i0 0).testBit j=true)(o2:∀ j,i0<j→j<is.length→((ycr ops.toList []).getD j 0).testBit i0=true)
  {F:List (Option Foot)} (hFl:F.length=i0) (hpw:∀ (i j:Nat),j<i→i<i0→((ycr ops.toList []).getD i 0).testBit j=false→Pair (is.getD j default,F.getD j none) (is.getD i default,F.getD i none))
  {t:Nat} {d:D} {s s1 s':PS} (hr:Run G T ((is.take i0).zip F) s s1) (hp:(is.getD i0 default).execX G T s1=some (t,d,s')) (hQ:∀ a' w',R G base n w0 g0 st0 dl s' a' w'→Q (.panic (yh4 t d)) a' w') (listed:Array Bool) (a:Act) (w:World) (hsz:listed.size=ops.size) (hu:∀ i,i<ops.size→listed.getD i true=false) (hR:R G base n w0 g0 st0 dl s a w) :
  wpAnyIn (Wr r) 0 P .any ops Q ops.size listed a w:=by
 have hlen:=(ytr ht).1
 have hlen':is.length=ops.size:=by simpa using hlen
 let Z:List (Nat×Option Foot):=(List.range i0).zip F
 have hmap:Z.map (·.1)=List.range i0:=by
  show((List.range i0).zip F).map (·.1)=_
  rw[List.map_fst_zip (by simp; omega)]
 have hZlt:∀ z∈Z,z.1<i0:=fun z hz=>by
  have:z.1∈Z.map (·.1):=List.mem_map_of_mem hz
  rw[hmap]at this
  exact List.mem_range.1 this
 have hZ:ZOK (ycr ops.toList []) is i0 none Z:=by
  refine⟨by rw[hmap]; exact List.nodup_range,fun k hk=>?_,?_⟩
  ·have:k∈Z.map (·.1):=by rw[hmap]; exact List.mem_range.2 hk
   obtain⟨z,hz,rfl⟩:=List.mem_map.1 this
   exact⟨z.2,hz⟩
  ·show List.Pairwise _ ((List.range i0).zip F)
   rw[List.pairwise_iff_getElem]
   intro q p hq hp' hqp hm _
   have hq1:q<i0:=by simp at hq; omega
   have hp1:p<i0:=by simp at hp'; omega
   simp only[List.getElem_zip,List.getElem_range]at hm ⊢
   have:=hpw p q hqp hp1 hm
   have e1:F.getD q none=F[q]:=by simp[List.getD_eq_getElem?_getD,show q<F.length by omega]
   have e2:F.getD p none=F[p]:=by simp[List.getD_eq_getElem?_getD,show p<F.length by omega]
   rw[e1,e2]at this
   exact this
 have hrest:Zof is (yb6 listed Z)=(is.take i0).zip F:=by
  have e:yb6 listed Z=Z:=by
   simp only[yb6,List.filter_eq_self]
   intro z hz
   rw[hu z.1 (by have:=hZlt z hz; omega)]
   rfl
  rw[e]
  show Zof is ((List.range i0).zip F)=_
  unfold Zof
  apply List.ext_getElem?
  intro i
  rcases Nat.lt_or_ge i i0 with h3 | h3
  ·rw[List.getElem?_eq_getElem (by simp; omega),List.getElem?_eq_getElem (by simp; omega)]
   simp only[List.getElem_map,List.getElem_zip,List.getElem_range,List.getElem_take]
   congr 2
   simp[List.getD_eq_getElem?_getD,show i<is.length by omega]
  ·rw[List.getElem?_eq_none (by simp; omega),List.getElem?_eq_none (by simp; omega)]
 refine yQv hT hY ht hlex (fun listed s=>(∀ j,i0≤j→j<ops.size→listed.getD j true=false)∧Run G T (Zof is (yb6 listed Z)) s s1) ?_ ?_ ops.size listed s a w hsz ?_ ?_ ⟨fun j _ hj=>hu j hj,by rw[hrest]; exact hr⟩ hR
 ·rintro listed s i o h1 h2 ⟨h3,h3'⟩ h4 h5 h6 h7
  rcases Nat.lt_trichotomy i i0 with hi | hi | hi
  ·left
   obtain⟨s2,g1,g2⟩:=yKr hZ h1 h2 h3' h4 h5 hi h6 h7 (fun j _ h=>by cases h)
   refine⟨s2,g1,fun j hj hjl=>?_,g2⟩
   have:=h3 j hj hjl
   have hji:¬ i=j:=by omega
   rw[← this]
   rcases Nat.lt_or_ge j listed.size with h5 | h5
   ·simp[Array.getD,h5,hji]
   ·simp[Array.getD,Nat.not_lt.2 h5]
  ·right
   subst hi
   have hall:∀ j,j<i→listed.getD j false=true:=fun j hj=>ysp h2 i o h4 h7 j (o1 j hj)
   have hnil:yb6 listed Z=[]:=by
    simp only[yb6,List.filter_eq_nil_iff,Bool.not_eq_true']
    intro z hz hl
    have h8:=hall z.1 (hZlt z hz)
    have h9:z.1<listed.size:=by have:=hZlt z hz; omega
    simp[Array.getD,h9]at h8 hl
    rw[h8]at hl; cases hl
   rw[hnil]at h3'
   simp only[Zof,List.map_nil,Run]at h3'
   subst h3'
   exact⟨t,d,s',hp,hQ⟩
  ·exfalso
   have h8:=ysp h2 i o h4 h7 i0 (o2 i hi (by omega))
   have h9:=h3 i0 (Nat.le_refl _) (by omega)
   have h10:i0<listed.size:=by omega
   simp[Array.getD,h10]at h8 h9
   rw[h8]at h9; cases h9
 ·rintro listed s h0 ⟨h1,_⟩
  exfalso
  have h2:=h1 i0 (Nat.le_refl _) (by omega)
  have:i0∈ybd ops.size listed:=by
   simp only[ybd,List.mem_filter,List.mem_range]
   exact⟨by omega,by simpa using h2⟩
  rw[h0]at this; cases this
 ·unfold ybd
  exact Nat.le_trans (List.length_filter_le ..) (by simp)
 ·intro i o ho hi
  have h1:=(List.getElem?_eq_some_iff.1 ho).1
  have h2:=hu i (by simpa using h1)
  have h3:i<listed.size:=by rw[hsz]; simpa using h1
  simp[Array.getD,h3]at hi h2
  rw[hi]at h2; cases h2
theorem Yit(hT:TblOK P G T)(hY:YOK P G T.y base w0 g0 st0){ops:Array Oper}{Q:Exit→Act→World→Prop}{is:List PI}(ht:trIs P il n ops ops.toList=some is)(hlex:ynw ops.toList=true)(hap:yye (ycr ops.toList []) is=true)(hox:ordX (ycr ops.toList []) is=true)
  {t:Nat} {d:D} {s s':PS} (hx:yhn G T is s=some (t,d,s')) (hQ:∀ a' w',R G base n w0 g0 st0 dl s' a' w'→Q (.panic (yh4 t d)) a' w') (listed:Array Bool) (a:Act) (w:World) (hsz:listed.size=ops.size) (hu:∀ i,i<ops.size→listed.getD i true=false) (hR:R G base n w0 g0 st0 dl s a w) :
  wpAnyIn (Wr r) 0 P .any ops Q ops.size listed a w:=by
 obtain⟨i0,s1,hi0,he,hp⟩:=yC2 _ _ hx
 have hlen':is.length=ops.size:=by simpa using (ytr ht).1
 obtain⟨o1,o2⟩:=yXg hox hi0 (yZ9 hp)
 obtain⟨F,hF,hr⟩:=yky _ _ _ he
 have hFl:F.length=i0:=by rw[hF,List.length_take]; omega
 refine yKq hT hY ht hlex hi0 o1 o2 hFl (fun i j hji hi hm=>?_) hr hp hQ listed a w hsz hu hR
 have h1:is[j]?=some (is.getD j default):=by simp[List.getD_eq_getElem?_getD,show j<is.length by omega]
 have h2:is[i]?=some (is.getD i default):=by simp[List.getD_eq_getElem?_getD,show i<is.length by omega]
 have h3:=yod hap h1 h2 hji hm
 exact⟨yfe h3,.inl h3⟩
theorem ySc{ms:List Nat}{l:List PI}{i:Nat}(h:Ymh ms l i=true):i<l.length∧(∀ j,j<i→(ms.getD i 0).testBit j=true)∧∀ j,i<j→j<l.length→(ms.getD j 0).testBit i=true:=by
 simp only[Ymh,Bool.and_eq_true,decide_eq_true_eq,List.all_eq_true,List.mem_range,Bool.or_eq_true,beq_iff_eq]at h
 obtain⟨hi,h1⟩:=h
 refine⟨hi,fun j hj=>?_,fun j hj hl=>?_⟩
 ·rcases h1 j (by omega)with e | e
  ·omega
  ·rwa [if_pos hj]at e
 ·rcases h1 j hl with e | e
  ·omega
  ·rwa [if_neg (by omega)]at e
theorem Yiu(hT:TblOK P G T)(hY:YOK P G T.y base w0 g0 st0){ops:Array Oper}{Q:Exit→Act→World→Prop}{is:List PI}(ht:trIs P il n ops ops.toList=some is)(hlex:ynw ops.toList=true){x y:Nat}(hxy:x≠y)(hx:x<ops.size){Z1 Z2:List (Nat×Option Foot)}(hZ1:ZOK (ycr ops.toList []) is ops.size (some (x,y)) Z1)(hZ2:ZOK (ycr ops.toList []) is ops.size (some (y,x)) Z2)
  (hZ1':∀ z∈Z1,z.1<ops.size) (hZ2':∀ z∈Z2,z.1<ops.size)
  {sf1 sf2:PS} (hQ1:∀ a' w',R G base n w0 g0 st0 dl sf1 a' w'→Q .normal a' w') (hQ2:∀ a' w',R G base n w0 g0 st0 dl sf2 a' w'→Q .normal a' w') (fuel:Nat) (listed:Array Bool) (s:PS) (a:Act) (w:World) (hsz:listed.size=ops.size) (hl:(ybd ops.size listed).length≤fuel) (hc:yr2 ops.toList listed)
  (hux:listed.getD x true=false) (huy:listed.getD y true=false) (hr1:Run G T (Zof is (yb6 listed Z1)) s sf1) (hr2:Run G T (Zof is (yb6 listed Z2)) s sf2) (hR:R G base n w0 g0 st0 dl s a w) :
  wpAnyIn (Wr r) 0 P .any ops Q fuel listed a w:=by
 refine Yci hT hY ht hlex (fun listed s=>(listed.getD x true=false∧listed.getD y true=false∧Run G T (Zof is (yb6 listed Z1)) s sf1∧Run G T (Zof is (yb6 listed Z2)) s sf2)∨
  ((listed.getD x true=true∨listed.getD y true=true)∧Run G T (Zof is (yb6 listed Z1)) s sf1)∨((listed.getD x true=true∨listed.getD y true=true)∧Run G T (Zof is (yb6 listed Z2)) s sf2)) ?_ ?_ fuel listed s a w hsz hl hc (.inl ⟨hux,huy,hr1,hr2⟩) hR
 ·intro listed s i o h1 h2 h3 h4 h5 h6 h7
  have hset:∀ q,q≠i→(listed.setIfInBounds i true).getD q true=listed.getD q true:=by
   intro q hq
   rcases Nat.lt_or_ge q listed.size with h | h
   ·simp[Array.getD,h,show ¬ i=q from fun e=>hq e.symm]
   ·simp[Array.getD,Nat.not_lt.2 h]
  have hself:(listed.setIfInBounds i true).getD i true=true:=by
   have:i<listed.size:=by omega
   simp[Array.getD,this]
  have hkeep:∀ q,listed.getD q true=true→(listed.setIfInBounds i true).getD q true=true:=by
   intro q hq
   by_cases e:q=i
   ·rw[e]; exact hself
   ·rw[hset q e]; exact hq
  rcases h3 with⟨a1,a2,a3,a4⟩ | ⟨a1,a2⟩ | ⟨a1,a2⟩
  ·by_cases ey:i=y
   ·obtain⟨s1,k1,k2⟩:=yoc hZ2 h1 h2 a4 h4 h5 h6 h7 (fun j _ h=>by
     simp only[Ywh,Ywj]at h
     exact hxy (h.2.trans ey))
    exact⟨s1,k1,.inr (.inr ⟨.inr (ey ▸ hself),k2⟩)⟩
   ·by_cases ex:i=x
    ·obtain⟨s1,k1,k2⟩:=yoc hZ1 h1 h2 a3 h4 h5 h6 h7 (fun j _ h=>by
      simp only[Ywh,Ywj]at h
      exact ey h.2.symm)
     exact⟨s1,k1,.inr (.inl ⟨.inl (ex ▸ hself),k2⟩)⟩
    ·obtain⟨s1,k1,k2⟩:=yoc hZ1 h1 h2 a3 h4 h5 h6 h7 (fun j _ h=>by
      simp only[Ywh,Ywj]at h
      exact ey h.2.symm)
     obtain⟨s1',k3,k4⟩:=yoc hZ2 h1 h2 a4 h4 h5 h6 h7 (fun j _ h=>by
      simp only[Ywh,Ywj]at h
      exact ex h.2.symm)
     obtain rfl:s1'=s1:=Option.some.inj (k3.symm.trans k1)
     exact⟨s1',k1,.inl ⟨by rw[hset x (fun e=>ex e.symm)]; exact a1,by rw[hset y (fun e=>ey e.symm)]; exact a2,k2,k4⟩⟩
  ·obtain⟨s1,k1,k2⟩:=yoc hZ1 h1 h2 a2 h4 h5 h6 h7 (fun j hj h=>by
    simp only[Ywh,Ywj]at h
    rcases a1 with a1 | a1
    ·rw[h.1,hj]at a1; cases a1
    ·rw[h.2,h6]at a1; cases a1)
   exact⟨s1,k1,.inr (.inl ⟨a1.imp (hkeep _) (hkeep _),k2⟩)⟩
  ·obtain⟨s1,k1,k2⟩:=yoc hZ2 h1 h2 a2 h4 h5 h6 h7 (fun j hj h=>by
    simp only[Ywh,Ywj]at h
    rcases a1 with a1 | a1
    ·rw[h.2,h6]at a1; cases a1
    ·rw[h.1,hj]at a1; cases a1)
   exact⟨s1,k1,.inr (.inr ⟨a1.imp (hkeep _) (hkeep _),k2⟩)⟩
 ·intro listed s h0 h1
  have hxl:listed.getD x true=true:=by
   cases h:listed.getD x true with
   |true=>rfl
   |false=>
    have h1:x∈ybd ops.size listed:=by
     simp only[ybd,List.mem_filter,List.mem_range]
     exact⟨hx,by simp[h]⟩
    rw[h0]at h1; cases h1
  rcases h1 with⟨a1,_⟩ | ⟨_,a2⟩ | ⟨_,a2⟩
  ·rw[hxl]at a1; cases a1
  ·rw[yE1 hZ1' h0]at a2
   simp only[Run]at a2
   subst a2; exact hQ1
  ·rw[yE1 hZ2' h0]at a2
   simp only[Run]at a2
   subst a2; exact hQ2
structure GoX (l:Nat) (base:Nat) (w:World) (g:Ghost) (st:St) (w':World) (g':Ghost) (st':St):Prop where
 sr:SR base w' g' st'
 evo:Evo g st g' st'
 im:ImLe w g w' g'
 new:∀ b o,g'.Im b o→g.Im b o∨base≤b
 below:Below base w w'
 kp:∀ (b:Nat) (o:Go.Obj),b≠l→w.heap[b]?=some o→special o=true→Kept w' b o
theorem Go1.x{w w':World}{g g':Ghost}{st st':St}(h:Go1 base w g st w' g' st')(l:Nat):GoX l base w g st w' g' st':=⟨h.sr,h.evo,h.im,h.new,h.below,fun b o _=>h.kp b o⟩
theorem GoX.trans{l:Nat}{w w1 w2:World}{g g1 g2:Ghost}{st st1 st2:St}(h:GoX l base w g st w1 g1 st1)(h':GoX l base w1 g1 st1 w2 g2 st2):GoX l base w g st w2 g2 st2:=
 ⟨h'.sr,h.evo.trans h'.evo,h.im.trans h'.im,fun b o hb=>by
  rcases h'.new b o hb with x | x
  ·exact h.new b o x
  ·exact .inr x,h.below.trans h'.below,fun b o hl hb hs=>(let⟨_,h1,h2⟩:=h.kp b o hl hb hs; let⟨o2,h3,h4⟩:=h'.kp b _ hl h1 (h2.special hs); ⟨o2,h3,h2.trans h4⟩)⟩
theorem GoX.fin{l:Nat}{w w':World}{g g':Ghost}{st st':St}(h:GoX l base w g st w' g' st')(hl:∀ (o:Go.Obj),w.heap[l]?=some o→special o=true→Kept w' l o):Go1 base w g st w' g' st':=
 ⟨h.sr,h.evo,h.im,h.new,h.below,fun b o hb hs=>by
  by_cases e:b=l
  ·subst e; exact hl o hb hs
  ·exact h.kp b o e hb hs⟩
theorem GoX.put{l:Nat}{w:World}{g:Ghost}{st:St}{o o':Go.Obj}(hS:SR base w g st)(ho:w.heap[l]?=some o)(hs:special o=true)(hnl:∃ ds,o=.deferred ds)(hl:base≤l):GoX l base w g st (w.putObj l o') g st:=by
 have hcell:∀ b x,g.Im b x→(w.putObj l o').cell? ⟨b,x,none⟩=w.cell? ⟨b,x,none⟩:=by
  intro b x hb
  have hne:b≠l:=by
   rintro rfl
   have:=hS.im b x hb
   unfold World.cell? at this
   rw[ho]at this
   cases o <;> simp[special]at hs this
  simp only[World.cell?,World.putObj_heap_other hne]
 have hI:ImLe w g (w.putObj l o') g:=⟨fun b x hb=>⟨hb,hcell b x hb⟩,fun b x hb hx=>by
  have hne:b≠l:=by
   rintro rfl
   rw[ho]at hb
   obtain rfl:=Option.some.inj hb
   cases o <;> first | (simp[spM]at hx; done) | (simp[special]at hs; done)
  rw[World.putObj_heap_other hne]; exact hb⟩
 refine⟨⟨?_,?_,hS.inj,?_,hS.dis,by rw[World.putObj_size]; exact hS.size⟩,Evo.refl _ _,hI,fun _ _ h=>.inl h,⟨rfl,rfl,rfl,by rw[World.putObj_size]; exact Nat.le_refl _,fun k hk=>World.putObj_heap_other (by omega)⟩,fun b o1 hb h1 _=>.same (by rw[World.putObj_heap_other hb]; exact h1)⟩
 ·intro k ob hk hm
  have hm:=hS.mp k ob hk hm
  refine hm.mono hI (Evo.refl _ _) rfl (World.putObj_heap_other ?_)
  rintro rfl
  obtain⟨x,hb,_,_,_,h5,_⟩:=hm.at
  obtain⟨ds,rfl⟩:=hnl
  exact h5 ds (Option.some.inj (hb.symm.trans ho))
 ·intro k ob hk hm
  obtain⟨C,e,hb,hbase,hszp,hx,hC,hrep⟩:=hS.blk k ob hk hm
  have hne:g.β k≠l:=by
   rintro rfl
   rw[ho]at hb
   obtain rfl:=Option.some.inj hb
   simp[special]at hs
  refine⟨C,e,by rw[World.putObj_heap_other hne]; exact hb,hbase,hszp,hx,hC,fun i j d hd=>?_⟩
  obtain⟨h1,v,h2,h3⟩:=hrep i j d hd
  exact⟨h1,v,h2,h3.mono hI (Evo.refl _ _)⟩
 ·intro b x hb
  rw[hcell b x hb]; exact hS.im b x hb
theorem YOK.mono{y:Nat→List D→St→Option (D×St)}{w1:World}{g1:Ghost}{st1:St}(h:YOK P G y base w0 g0 st0)(hg:Go1 base w0 g0 st0 w1 g1 st1):YOK P G y base w1 g1 st1:=
 fun l w g st st' ds vs d hgo=>h l w g st st' ds vs d (hg.trans hgo)
theorem yV6{x:List Deferred}{w:World}{g:Ghost}{st:St}:∀ (ps:List Nat) (ds:List D) (vs:List Value) (fr:Frame) (tmps:Array Value),ds.length=ps.length→ds.length=vs.length→(∀ p∈ps,p<tmps.size)→FR w g st fr {tmps:=tmps,defers:=x}→
  (∀ (i:Nat) d v,ds[i]?=some d→vs[i]?=some v→RepV w g st d v)→
  FR w g st (setP fr ps ds) {tmps:=(ps.zip vs).foldl (fun tmps p=>tmps.setIfInBounds p.1 p.2) tmps,defers:=x}
 |[],ds,vs,fr,tmps,h1,h2,_,hF,_=>by
  simp only[List.zip_nil_left,List.foldl_nil]
  cases ds with
  |nil=>exact hF
  |cons d ds=>simp at h1
 |p::ps,ds,vs,fr,tmps,h1,h2,hp,hF,hr=>by
  cases ds with
  |nil=>simp at h1
  |cons d ds=>
   cases vs with
   |nil=>simp at h2
   |cons v vs=>
    simp only[List.zip_cons_cons,List.foldl_cons,setP]
    refine yV6 ps ds vs _ _ (by simpa using h1) (by simpa using h2) (fun q hq=>?_) ?_ (fun i d v hd hv=>hr (i+1) d v (by simpa using hd) (by simpa using hv))
    ·simp only[Array.size_setIfInBounds]; exact hp q (by simp[hq])
    ·exact FR.put (dst:=some p) (a:={tmps:=tmps,defers:=x}) hF (fun t ht=>by cases ht; exact hp p (by simp)) (hr 0 d v rfl rfl)
theorem yrw:∀ (l:List (Nat×Value)) (tmps:Array Value),(l.foldl (fun tmps p=>tmps.setIfInBounds p.1 p.2) tmps).size=tmps.size
 |[],_=>rfl
 |p::l,tmps=>by rw[List.foldl_cons,yrw l]; simp
theorem R.drew{s:PS}{a:Act}{w:World}(h:R G base n w0 g0 st0 dl s a w):R G base n w0 g0 st0 dl s a {w with drawn:=w.drawn+1}:=by
 obtain⟨g,h⟩:=h
 have hg:=h.sr.drew (w.drawn+1)
 exact⟨g,h.go hg (h.fr.mono hg.im hg.evo) rfl h.sz⟩
end
end Go.Proofs.YtijnglngaogdjaaGreatDoor.PI
namespace Go.Proofs.YtijnglngaogdjaaGreatDoor.PI
open Go Go.RowKit
section
variable {P:Program} {il:List Nat} {G:Glob} {T:Tbl} {base n:Nat} {w0:World} {g0:Ghost} {st0:St} {dl:List Deferred} {ro:Option Nat}
theorem ywa{k:Nat}{st:St}{i:Nat}{o:Obj}(h:st[i]?=some o)(hi:i<k):(cut k st)[i]?=some {o with els:=if o.row then o.els else o.els.map (low k)}:=by
 simp[cut,hi,h]
theorem yAz{k:Nat}{st:St}{i:Nat}{o':Obj}(h:(cut k st)[i]?=some o'):i<k∧∃ o,st[i]?=some o∧o'={o with els:=if o.row then o.els else o.els.map (low k)}:=by
 simp only[cut,List.getElem?_map,Ywi,List.getElem?_take]at h
 obtain⟨o,h1,h2⟩:=h
 split at h1
 ·rename_i hi; exact⟨hi,o,h1,h2.symm⟩
 ·cases h1
theorem yp7(k:Nat)(o:Obj):(if o.row then o.els else o.els.map (low k)).length=o.els.length:=by
 split <;> simp
theorem yO7{w:World}{g:Ghost}{st:St}{k:Nat}{d:D}{v:Value}(h:RepV w g st d v):RepV w g (cut k st) (low0 k d) v:=by
 cases h with
 |int k n=>exact .int k n
 |bool b=>exact .bool b
 |str s=>exact .str s
 |nilp=>exact .nilp
 |nilm=>exact .nilm
 |gmap es b ents clock h1 h2 h3=>exact .gmap es b ents clock h1 h2 h3
 |nilf=>exact .nilf
 |slcE sz t a cap h=>exact .slcE sz t a cap h
 |slc els t b off cap sz val h1 h2 h3 h3' h4 h5 h6 h7=>exact RepV.pure (ImLe.refl _ _) (.slc els t b off cap sz val h1 h2 h3 h3' h4 h5 h6 h7) rfl
 |clo f ds vs h1 h2=>exact .junk _
 |row key tot off len o v h0 h1 h2 h3 h4=>
  simp only[low0]
  split
  ·rename_i hk
   refine .row key tot off len _ v h0 (ywa h1 hk) h2 (by simpa[yp7]using h3) fun e=>?_
   exact h4 (by simpa[yp7]using e)
  ·exact .junk _
 |bsl key off n sz ag o cap h1 h2 h3 h4=>
  simp only[low0]
  split
  ·rename_i hk; exact .bsl key off n sz ag _ cap (ywa h1 hk) h2 h3 h4
  ·exact .junk _
 |mapv key o h1 h2=>
  simp only[low0]
  split
  ·rename_i hk; exact .mapv key _ (ywa h1 hk) h2
  ·exact .junk _
 |ptr key off o h1 h2 h3=>
  simp only[low0]
  split
  ·rename_i hk; exact .ptr key off _ (ywa h1 hk) h2 h3
  ·exact .junk _
 |rptr key tot i off o v h0 h1 h2 h3 h4=>
  simp only[low0]
  split
  ·rename_i hk
   refine .rptr key tot i off _ v h0 (ywa h1 hk) h2 (by simpa[yp7]using h3) fun e=>?_
   exact h4 (by simpa[yp7]using e)
  ·exact .junk _
 |eptr el off b o val h0 h1 h2=>exact RepV.eptr_any (ImLe.refl _ _) (.eptr el off b o val h0 h1 h2)
 |agg ds vs h1 h2=>exact .junk _
 |tup ds vs h1 h2=>exact .junk _
 |junk v=>exact .junk v
theorem yFk{w:World}{g:Ghost}{st:St}{k:Nat}{d:D}{v:Value}(h:RepV w g st d v):RepV w g (cut k st) (low1 k d) v:=by
 cases d with
 |clo f l=>
  cases h with
  |clo _ _ vs h1 h2=>
   refine .clo f _ vs (by simpa using h1) fun i d v hd hv=>?_
   simp only[List.getElem?_map,Ywi]at hd
   obtain⟨d0,h3,rfl⟩:=hd
   exact yO7 (h2 i d0 v h3 hv)
 |_=>exact yO7 h
theorem yMk{w:World}{g:Ghost}{st:St}{k:Nat}{d:D}{v:Value}(h:RepV w g st d v):RepV w g (cut k st) (low k d) v:=by
 cases d with
 |agg l=>
  cases h with
  |agg _ vs h1 h2=>
   refine .agg _ vs (by simpa using h1) fun i d v hd hv=>?_
   simp only[List.getElem?_map,Ywi]at hd
   obtain⟨d0,h3,rfl⟩:=hd
   exact yFk (h2 i d0 v h3 hv)
 |tup l=>exact .junk _
 |_=>exact yFk h
theorem ySr(k:Nat)(d:D):(low1 k d).cells=[low1 k d]:=by
 cases d <;> simp only[low1,low0] <;> first | rfl | (split <;> rfl)
theorem yzo{x:D}(h:x.cells=[x])(l:List D):x≠.agg l:=by
 rintro rfl
 have h:l=[.agg l]:=h
 have:=congrArg (fun l:List D=>SizeOf.sizeOf l) h
 simp at this
 omega
theorem Ytc(k:Nat){d:D}(h:d.cells=[d]):low k d=low1 k d:=by
 cases d with
 |agg l=>exact absurd rfl (yzo h l)
 |_=>rfl
theorem yzt(k:Nat){d:D}(h:d.cells=[d]):(low k d).cells=[low k d]:=by rw[Ytc k h]; exact ySr k d
theorem Yac{w w':World}{g g':Ghost}{st st':St}{f1:D→D}(h1:∀ d v,RepV w g st d v→RepV w' g' st' (f1 d) v){l:List D}{sz:Nat}(hl:l.length=sz)(hs:1<sz){kv vv:Value}
  (hk:RepV w g st (entK sz (.agg l)) kv) (hv:RepV w g st (entV sz (.agg l)) vv):RepV w' g' st' (entK sz (.agg (l.map f1))) kv∧RepV w' g' st' (entV sz (.agg (l.map f1))) vv:=by
 constructor
 ·by_cases h2:sz=2
  ·subst h2
   match l,hl with
   |[a,b],_=>exact h1 _ _ hk
  ·have e:∀ l,entK sz (.agg l)=.agg (l.take (sz - 1)):=fun l=>by simp[entK,D.mk,h2]
   rw[e]at hk ⊢
   cases hk with
   |agg _ vs q1 q2=>
    rw[← List.map_take]
    refine .agg _ vs (by simpa using q1) fun i d v hd hv=>?_
    simp only[List.getElem?_map,Ywi]at hd
    obtain⟨d0,h3,rfl⟩:=hd
    exact h1 _ _ (q2 i d0 v h3 hv)
 ·have hd:∃ x,l.drop (sz - 1)=[x]:=by
   have:(l.drop (sz - 1)).length=1:=by rw[List.length_drop]; omega
   match l.drop (sz - 1),this with
   |[x],_=>exact⟨x,rfl⟩
  obtain⟨x,hx⟩:=hd
  simp only[entV,← List.map_drop,hx]at hv ⊢
  exact h1 _ _ hv
theorem MapAt.mkRec{base:Nat}{w:World}{g:Ghost}{st:St}{b:Nat}{o:Obj}(hs:o.sz=1000003)(h:Yiy base w b o):MapAt base w g st b o:=by
 unfold MapAt; rwa [if_pos hs]
theorem MapAt.mkOld{base:Nat}{w:World}{g:Ghost}{st:St}{b:Nat}{o:Obj}(hs:o.sz≠1000003)(h:MapAt0 base w g st b o):MapAt base w g st b o:=by
 unfold MapAt; rwa [if_neg hs]
theorem Yu4{base:Nat}{w:World}{g:Ghost}{st:St}(h:SR base w g st)(k:Nat):SR base w g (cut k st):=by
 refine⟨?_,?_,?_,h.im,?_,h.size⟩
 ·intro i o' hi hm
  obtain⟨hik,o,ho,rfl⟩:=yAz hi
  have hm:o.isMap=true:=hm
  have hr:o.row=false:=yz4 hm
  have hmp:=h.mp i o ho hm
  by_cases hs:o.sz=1000003
  ·obtain⟨r,n,a1,a2,a3,a4⟩:=hmp.rec' hs
   refine MapAt.mkRec hs ⟨r,n,a1,a2,by simp[hr,a3,low,low1,low0],a4⟩
  obtain⟨es,clock,h1,h2,h3,h4,h5,h5'⟩:=hmp.old hs
  refine MapAt.mkOld hs ?_
  refine⟨es,clock,h1,h2,by rw[h3,yp7],?_,?_,h5'⟩
  ·intro x hx
   simp only[hr,Bool.false_eq_true,if_false,List.mem_map]at hx
   obtain⟨y,hy,rfl⟩:=hx
   obtain⟨l,rfl,hl⟩:=h4 y hy
   exact⟨_,rfl,by simpa using hl⟩
  ·intro j e el he hel
   simp only[hr,Bool.false_eq_true,if_false,List.getElem?_map,Ywi]at hel
   obtain⟨el0,hel0,rfl⟩:=hel
   obtain⟨l,rfl,hl⟩:=h4 el0 (List.mem_of_getElem? hel0)
   have h6:=h5 j e _ he hel0
   exact Yac (fun d v h=>yFk h) hl (yF0 hm) h6.1 h6.2
 ·intro i o' hi hm
  obtain⟨hik,o,ho,rfl⟩:=yAz hi
  have hm:o.isMap=false:=hm
  obtain⟨C,e,hb,hbase,hszp,hx,hC,hrep⟩:=h.blk i o ho hm
  refine⟨C,e,hb,hbase,hszp,?_,?_,?_⟩
  ·intro x hxm
   by_cases hr:o.row=true
   ·simp only[hr,if_true]at hxm; exact hx x hxm
   ·simp only[hr,Bool.false_eq_true,if_false,List.mem_map]at hxm
    simp only[hr,Bool.false_eq_true,if_false]at hC
    obtain⟨y,hy,rfl⟩:=hxm
    rw[yzt k (hC.2.2 y hy),hC.2.1]; rfl
  ·by_cases hr:o.row=true
   ·simp only[hr,if_true]at hC ⊢; exact hC
   ·simp only[hr,Bool.false_eq_true,if_false]at hC ⊢
    refine⟨by simpa using hC.1,hC.2.1,fun x hxm=>?_⟩
    simp only[List.mem_map]at hxm
    obtain⟨y,hy,rfl⟩:=hxm
    exact yzt k (hC.2.2 y hy)
  ·intro i' j d hd
   by_cases hr:o.row=true
   ·simp only[hr,if_true]at hd
    obtain⟨h1,v,h2,h3⟩:=hrep i' j d hd
    exact⟨h1,v,h2,h3.pure (ImLe.refl _ _) (h1 hr)⟩
   ·simp only[hr,Bool.false_eq_true,if_false]at hd hC
    obtain⟨e',he,hj⟩:=yap hd
    simp only[List.getElem?_map,Ywi]at he
    obtain⟨e0,he0,rfl⟩:=he
    rw[yzt k (hC.2.2 e0 (List.mem_of_getElem? he0))]at hj
    have hj0:j=0∧d=low k e0:=by
     cases j with
     |zero=>simp at hj; exact⟨rfl,hj.symm⟩
     |succ j=>simp at hj
    obtain⟨rfl,rfl⟩:=hj0
    obtain⟨_,v,h2,h3⟩:=hrep i' 0 e0 (ya5 he0 (by rw[hC.2.2 e0 (List.mem_of_getElem? he0)]; rfl))
    exact⟨fun e=>absurd e hr,v,h2,yMk h3⟩
 ·intro k1 k2 o1 o2 h1 h2 he
  obtain⟨_,p1,q1,_⟩:=yAz h1
  obtain⟨_,p2,q2,_⟩:=yAz h2
  exact h.inj _ _ _ _ q1 q2 he
 ·intro k1 o1 x h1 hi
  obtain⟨_,p1,q1,rfl⟩:=yAz h1
  have:=h.dis _ _ _ q1 hi
  exact⟨this.1,by simpa[yp7]using this.2⟩
def posn(n:Nat)(σ:List Nat)(j:Nat):Nat:=if j<n then j else σ.getD (j - n) 0
def gRen(n:Nat)(σ:List Nat)(g:Ghost):Ghost:={β:=fun j=>g.β (posn n σ j),γ:=fun j=>g.γ (posn n σ j),Im:=g.Im}
theorem yCf:∀ (σ:List Nat) (b key j:Nat),yH9 σ b key=some j→b≤j∧σ[j - b]?=some key
 |[],_,_,_,h=>by cases h
 |k::r,b,key,j,h=>by
  simp only[yH9]at h
  split at h
  ·rename_i e
   simp only[Ywh]at h
   subst h; subst e
   exact⟨Nat.le_refl _,by simp⟩
  ·obtain⟨h1,h2⟩:=yCf r (b+1) key j h
   refine⟨by omega,?_⟩
   rw[show j - b=(j - (b+1))+1 by omega,List.getElem?_cons_succ]
   exact h2
theorem yml{n:Nat}{σ:List Nat}{key j:Nat}(h:renK n σ key=some j):posn n σ j=key∧(j<n∨(n≤j∧σ[j - n]?=some key)):=by
 unfold renK at h
 split at h
 ·rename_i hk
  simp only[Ywh]at h
  subst h
  exact⟨by simp[posn,hk],.inl hk⟩
 ·obtain⟨h1,h2⟩:=yCf σ n key j h
  exact⟨by simp[posn,Nat.not_lt.2 h1,List.getD_eq_getElem?_getD,h2],.inr ⟨h1,h2⟩⟩
theorem yk0(n:Nat)(σ:List Nat)(o:Obj):(renO n σ o).els.length=o.els.length:=by
 simp only[renO]; split <;> simp
theorem yjv{n:Nat}{σ:List Nat}{st:St}(hn:n≤st.length){key j:Nat}{o:Obj}(h:renK n σ key=some j)(ho:st[key]?=some o):(picked n σ st)[j]?=some (renO n σ o):=by
 obtain⟨h1,h2⟩:=yml h
 have hl:((st.take n).map (renO n σ)).length=n:=by simp; omega
 rcases h2 with h2 | ⟨h2,h3⟩
 ·have:j=key:=by rw[← h1]; simp[posn,h2]
  subst this
  rw[picked,List.getElem?_append_left (by omega)]
  simp[h2,ho]
 ·rw[picked,List.getElem?_append_right (by omega),hl]
  simp[h3,List.getD_eq_getElem?_getD,ho]
theorem yR5{n:Nat}{σ:List Nat}{st:St}(hn:n≤st.length)(hσ:∀ k∈σ,k<st.length){j:Nat}{o':Obj}(h:(picked n σ st)[j]?=some o') :
  ∃ o,st[posn n σ j]?=some o∧o'=renO n σ o∧(j<n∨(n≤j∧σ[j - n]?=some (posn n σ j))):=by
 have hl:((st.take n).map (renO n σ)).length=n:=by simp; omega
 rcases Nat.lt_or_ge j n with hj | hj
 ·rw[picked,List.getElem?_append_left (by omega)]at h
  simp only[List.getElem?_map,List.getElem?_take,hj,if_true,Ywi]at h
  obtain⟨o,h1,h2⟩:=h
  exact⟨o,by simpa[posn,hj]using h1,h2.symm,.inl hj⟩
 ·rw[picked,List.getElem?_append_right (by omega),hl]at h
  simp only[List.getElem?_map,Ywi]at h
  obtain⟨k,h1,h2⟩:=h
  have hk:=hσ k (List.mem_of_getElem? h1)
  have hp:posn n σ j=k:=by simp[posn,Nat.not_lt.2 hj,List.getD_eq_getElem?_getD,h1]
  refine⟨st[k],by rw[hp,List.getElem?_eq_getElem hk],?_,.inr ⟨hj,by rw[hp]; exact h1⟩⟩
  rw[← h2]
  simp[List.getD_eq_getElem?_getD,List.getElem?_eq_getElem hk]
theorem ymo{w:World}{g:Ghost}{st:St}{f:Nat→D}{o:Option Nat}{v:Value}(h:∀ j,o=some j→RepV w g st (f j) v):RepV w g st (ygn f o) v:=by
 cases o with
 |none=>exact .junk _
 |some j=>exact h j rfl
theorem yOn{w:World}{g:Ghost}{st:St}{n:Nat}{σ:List Nat}(hn:n≤st.length){d:D}{v:Value}(h:RepV w g st d v):RepV w (gRen n σ g) (picked n σ st) (ren0 n σ d) v:=by
 have hI:ImLe w g w (gRen n σ g):=⟨fun b o h=>⟨h,rfl⟩,fun _ _ h _=>h⟩
 cases h with
 |int k n=>exact .int k n
 |bool b=>exact .bool b
 |str s=>exact .str s
 |nilp=>exact .nilp
 |nilm=>exact .nilm
 |gmap es b ents clock h1 h2 h3=>exact .gmap es b ents clock h1 h2 h3
 |nilf=>exact .nilf
 |slcE sz t a cap h=>exact .slcE sz t a cap h
 |slc els t b off cap sz val h1 h2 h3 h3' h4 h5 h6 h7=>exact RepV.pure hI (.slc els t b off cap sz val h1 h2 h3 h3' h4 h5 h6 h7) rfl
 |clo f ds vs h1 h2=>exact .junk _
 |row key tot off len o v h0 h1 h2 h3 h4=>
  refine ymo fun j hj=>?_
  refine .row j tot off len _ v h0 (yjv hn hj h1) h2 (by rw[yk0]; exact h3) fun e=>?_
  have:=h4 (by rw[yk0]at e; exact e)
  simp only[gRen,(yml hj).1]
  exact this
 |bsl key off m sz ag o cap h1 h2 h3 h4=>
  refine ymo fun j hj=>?_
  have:=RepV.bsl (w:=w) (g:=gRen n σ g) j off m sz ag _ cap (yjv (σ:=σ) hn hj h1) h2 h3 h4
  simp only[gRen,(yml hj).1]at this
  exact this
 |mapv key o h1 h2=>
  refine ymo fun j hj=>?_
  have:=RepV.mapv (w:=w) (g:=gRen n σ g) j _ (yjv (σ:=σ) hn hj h1) h2
  simp only[gRen,(yml hj).1]at this
  exact this
 |ptr key off o h1 h2 h3=>
  refine ymo fun j hj=>?_
  have:=RepV.ptr (w:=w) (g:=gRen n σ g) j off _ (yjv (σ:=σ) hn hj h1) h2 h3
  simp only[gRen,(yml hj).1]at this
  exact this
 |rptr key tot i off o v h0 h1 h2 h3 h4=>
  refine ymo fun j hj=>?_
  refine .rptr j tot i off _ v h0 (yjv hn hj h1) h2 (by rw[yk0]; exact h3) fun e=>?_
  have:=h4 (by rw[yk0]at e; exact e)
  simp only[gRen,(yml hj).1]
  exact this
 |eptr el off b o val h0 h1 h2=>exact RepV.eptr_any hI (.eptr el off b o val h0 h1 h2)
 |agg ds vs h1 h2=>exact .junk _
 |tup ds vs h1 h2=>exact .junk _
 |junk v=>exact .junk v
theorem yE3{w:World}{g:Ghost}{st:St}{n:Nat}{σ:List Nat}(hn:n≤st.length){d:D}{v:Value}(h:RepV w g st d v):RepV w (gRen n σ g) (picked n σ st) (ren1 n σ d) v:=by
 cases d with
 |clo f l=>
  cases h with
  |clo _ _ vs h1 h2=>
   refine .clo f _ vs (by simpa using h1) fun i d v hd hv=>?_
   simp only[List.getElem?_map,Ywi]at hd
   obtain⟨d0,h3,rfl⟩:=hd
   exact yOn hn (h2 i d0 v h3 hv)
 |_=>exact yOn hn h
theorem yWl{w:World}{g:Ghost}{st:St}{n:Nat}{σ:List Nat}(hn:n≤st.length){d:D}{v:Value}(h:RepV w g st d v):RepV w (gRen n σ g) (picked n σ st) (ren n σ d) v:=by
 cases d with
 |agg l=>
  cases h with
  |agg _ vs h1 h2=>
   refine .agg _ vs (by simpa using h1) fun i d v hd hv=>?_
   simp only[List.getElem?_map,Ywi]at hd
   obtain⟨d0,h3,rfl⟩:=hd
   exact yE3 hn (h2 i d0 v h3 hv)
 |tup l=>exact .junk _
 |_=>exact yE3 hn h
theorem yRp(n:Nat)(σ:List Nat)(d:D):(ren1 n σ d).cells=[ren1 n σ d]:=by
 cases d <;> simp only[ren1,ren0,ygn] <;> first | rfl | (split <;> rfl)
theorem Ysq(n:Nat)(σ:List Nat){d:D}(h:d.cells=[d]):ren n σ d=ren1 n σ d:=by
 cases d with
 |agg l=>exact absurd rfl (yzo h l)
 |_=>rfl
theorem yzg(n:Nat)(σ:List Nat){d:D}(h:d.cells=[d]):(ren n σ d).cells=[ren n σ d]:=by rw[Ysq n σ h]; exact yRp n σ d
theorem yG4(lo hi:Nat):∀ (l acc:List Nat),(acc.Nodup∧∀ k∈acc,lo≤k∧k<hi)→(uniq lo hi l acc).Nodup∧∀ k∈uniq lo hi l acc,lo≤k∧k<hi
 |[],_,h=>h
 |k::r,acc,h=>by
  simp only[uniq]
  refine yG4 lo hi r _ ?_
  split
  ·rename_i hk
   refine⟨?_,fun q hq=>?_⟩
   ·rw[List.nodup_append]
    refine⟨h.1,by simp,fun a ha b hb e=>?_⟩
    simp only[List.mem_singleton]at hb
    subst hb; subst e
    have:=hk.2.2
    simp[ha]at this
   ·simp only[List.mem_append,List.mem_singleton]at hq
    rcases hq with hq | rfl
    ·exact h.2 q hq
    ·exact⟨hk.1,hk.2.1⟩
  ·exact h
theorem yW4{base:Nat}{w:World}{g:Ghost}{st:St}(h:SR base w g st){n:Nat}{σ:List Nat}(hn:n≤st.length)(hd:σ.Nodup)(hσ:∀ k∈σ,n≤k∧k<st.length):SR base w (gRen n σ g) (picked n σ st):=by
 have inv:=fun {j:Nat} {o':Obj} (h:(picked n σ st)[j]?=some o')=>yR5 hn (fun k hk=>(hσ k hk).2) h
 refine⟨?_,?_,?_,h.im,?_,h.size⟩
 ·intro i o' hi hm
  obtain⟨o,ho,rfl,hpos⟩:=inv hi
  have hm:o.isMap=true:=hm
  have hr:o.row=false:=yz4 hm
  have hmp:=h.mp _ o ho hm
  by_cases hs:o.sz=1000003
  ·obtain⟨r,n,a1,a2,a3,a4⟩:=hmp.rec' hs
   refine MapAt.mkRec hs ⟨r,n,a1,a2,by simp[renO,hr,a3,ren,ren1,ren0],a4⟩
  obtain⟨es,clock,h1,h2,h3,h4,h5,h5'⟩:=hmp.old hs
  refine MapAt.mkOld hs ?_
  refine⟨es,clock,h1,h2,by rw[h3,yk0],?_,?_,h5'⟩
  ·intro x hx
   simp only[renO,hr,Bool.false_eq_true,if_false,List.mem_map]at hx
   obtain⟨y,hy,rfl⟩:=hx
   obtain⟨l,rfl,hl⟩:=h4 y hy
   exact⟨_,rfl,by rw[List.length_map]; exact hl⟩
  ·intro j e el he hel
   simp only[renO,hr,Bool.false_eq_true,if_false,List.getElem?_map,Ywi]at hel
   obtain⟨el0,hel0,rfl⟩:=hel
   obtain⟨l,rfl,hl⟩:=h4 el0 (List.mem_of_getElem? hel0)
   have h6:=h5 j e _ he hel0
   exact Yac (fun d v h=>yE3 hn h) hl (yF0 hm) h6.1 h6.2
 ·intro i o' hi hm
  obtain⟨o,ho,rfl,hpos⟩:=inv hi
  have hm:o.isMap=false:=hm
  obtain⟨C,e,hb,hbase,hszp,hx,hC,hrep⟩:=h.blk _ o ho hm
  refine⟨C,e,hb,hbase,hszp,?_,?_,?_⟩
  ·intro x hxm
   simp only[renO]at hxm ⊢
   by_cases hr:o.row=true
   ·simp only[hr,if_true]at hxm; exact hx x hxm
   ·simp only[hr,Bool.false_eq_true,if_false,List.mem_map]at hxm
    simp only[hr,Bool.false_eq_true,if_false]at hC
    obtain⟨y,hy,rfl⟩:=hxm
    rw[yzg n σ (hC.2.2 y hy),hC.2.1]; rfl
  ·simp only[renO]
   by_cases hr:o.row=true
   ·simp only[hr,if_true]at hC ⊢; exact hC
   ·simp only[hr,Bool.false_eq_true,if_false]at hC ⊢
    refine⟨by simpa using hC.1,hC.2.1,fun x hxm=>?_⟩
    simp only[List.mem_map]at hxm
    obtain⟨y,hy,rfl⟩:=hxm
    exact yzg n σ (hC.2.2 y hy)
  ·intro i' j d hd'
   simp only[renO]at hd' ⊢
   by_cases hr:o.row=true
   ·simp only[hr,if_true]at hd'
    obtain⟨h1,v,h2,h3⟩:=hrep i' j d hd'
    exact⟨h1,v,h2,RepV.pure (g:=g) (g':=gRen n σ g) ⟨fun b o h=>⟨h,rfl⟩,fun _ _ h _=>h⟩ h3 (h1 hr)⟩
   ·simp only[hr,Bool.false_eq_true,if_false]at hd' hC
    obtain⟨e',he,hj⟩:=yap hd'
    simp only[List.getElem?_map,Ywi]at he
    obtain⟨e0,he0,rfl⟩:=he
    rw[yzg n σ (hC.2.2 e0 (List.mem_of_getElem? he0))]at hj
    have hj0:j=0∧d=ren n σ e0:=by
     cases j with
     |zero=>simp at hj; exact⟨rfl,hj.symm⟩
     |succ j=>simp at hj
    obtain⟨rfl,rfl⟩:=hj0
    obtain⟨_,v,h2,h3⟩:=hrep i' 0 e0 (ya5 he0 (by rw[hC.2.2 e0 (List.mem_of_getElem? he0)]; rfl))
    exact⟨fun e=>absurd e hr,v,h2,yWl hn h3⟩
 ·intro k1 k2 o1 o2 h1 h2 he
  obtain⟨p1,q1,_,r1⟩:=inv h1
  obtain⟨p2,q2,_,r2⟩:=inv h2
  have e:=h.inj _ _ _ _ q1 q2 he
  rcases r1 with r1 | ⟨r1,s1⟩ <;> rcases r2 with r2 | ⟨r2,s2⟩
  ·simpa[posn,r1,r2]using e
  ·have:=(hσ _ (List.mem_of_getElem? s2)).1
   rw[← e]at this
   simp only[posn,r1,if_true]at this
   omega
  ·have:=(hσ _ (List.mem_of_getElem? s1)).1
   rw[e]at this
   simp only[posn,r2,if_true]at this
   omega
  ·rw[e]at s1
   have h3:=(List.getElem?_inj (List.getElem?_eq_some_iff.1 s1).1 hd).1 (s1.trans s2.symm)
   omega
 ·intro k1 o1 x h1 hi
  obtain⟨o,q1,rfl,_⟩:=inv h1
  have:=h.dis _ _ _ q1 hi
  exact⟨this.1,by rw[yk0]; exact this.2⟩
theorem yMi{w:World}{g:Ghost}{st:St}{n:Nat}{σ:List Nat}(hn:n≤st.length){fr:Frame}{a:Act}(h:FR w g st fr a):∀ (keep:List Nat),FR w (gRen n σ g) (picked n σ st) (mkF (keep.map fun q=>(q,ren n σ (fr q)))) a
 |[],_=>.junk _
 |q::r,s=>by
  simp only[List.map_cons,mkF]
  split
  ·rename_i e; subst e; exact yWl hn (h s)
  ·exact yMi hn h r s
theorem Evo.len{g g':Ghost}{st st':St}(h:Evo g st g' st'):st.length≤st'.length:=by
 rcases Nat.lt_or_ge st'.length st.length with h1 | h1
 ·obtain⟨o',h2,_⟩:=h st'.length st[st'.length] (List.getElem?_eq_getElem h1)
  rw[List.getElem?_eq_none (Nat.le_refl _)]at h2
  cases h2
 ·exact h1
theorem Evo.cut{g g':Ghost}{st st':St}(h:Evo g st g' st'){k:Nat}(hk:st.length≤k):Evo g st g' (PI.cut k st'):=by
 intro i o hi
 obtain⟨o',h1,h2,h3,h4,h5,h6⟩:=h i o hi
 have:i<st.length:=(List.getElem?_eq_some_iff.1 hi).1
 exact⟨_,ywa h1 (by omega),h2,h3,by simpa[yp7]using h4,fun e=>h5 (by simpa[yp7]using e),h6⟩
theorem Go1.cut{w w':World}{g g':Ghost}{st st':St}(h:Go1 base w g st w' g' st'){k:Nat}(hk:st.length≤k):Go1 base w g st w' g' (PI.cut k st'):=
 ⟨Yu4 h.sr k,h.evo.cut hk,h.im,h.new,h.below,h.kp⟩
theorem Go1.picked{w w':World}{g g':Ghost}{st st':St}(h:Go1 base w g st w' g' st'){n:Nat}{σ:List Nat}(hk:st.length≤n)(hn:n≤st'.length)(hd:σ.Nodup)(hσ:∀ k∈σ,n≤k∧k<st'.length):Go1 base w g st w' (gRen n σ g') (PI.picked n σ st'):=by
 refine⟨yW4 h.sr hn hd hσ,?_,⟨h.im.im,h.im.kp⟩,h.new,h.below,h.kp⟩
 intro i o hi
 obtain⟨o',h1,h2,h3,h4,h5,h6⟩:=h.evo i o hi
 have hlt:i<st.length:=(List.getElem?_eq_some_iff.1 hi).1
 have hp:posn n σ i=i:=by simp[posn,show i<n by omega]
 refine⟨_,yjv (key:=i) (j:=i) hn (by simp[renK,show i<n by omega]) h1,h2,h3,by rw[yk0]; exact h4,fun e=>?_,fun e=>?_⟩
 ·simp only[gRen,hp]; exact h5 (by rw[yk0]at e; exact e)
 ·simp only[gRen,hp]; exact h6 e
theorem R.restrict{s:PS}{a:Act}{w:World}(h:R G base n w0 g0 st0 dl s a w)(keep:List Nat)(k:Nat)(hk:st0.length≤k):R G base n w0 g0 st0 dl (restrict keep k s) a w:=by
 obtain⟨g,h⟩:=h
 unfold PI.restrict
 generalize hm:(if k≤s.st.length then k else s.st.length)=m
 have hm1:m≤s.st.length:=by rw[← hm]; split <;> omega
 have hm2:st0.length≤m:=by
  have:=h.go1.evo.len
  rw[← hm]; split <;> omega
 generalize hl:uniq m s.st.length (yI4 keep m s) []=σ
 have hσ:=yG4 m s.st.length (yI4 keep m s) [] ⟨List.nodup_nil,fun _ h=>by cases h⟩
 rw[hl]at hσ
 exact⟨gRen m σ g,h.go1.picked hm2 hm1 hσ.1 hσ.2,yMi hm1 h.fr keep,h.gl.mono ⟨fun b o h=>⟨h,rfl⟩,fun _ _ h _=>h⟩,h.df,h.sz⟩
theorem yI6{w:World}{g:Ghost}{st:St}{fr:Frame}{a:Act}(h:FR w g st fr a):∀ (keep:List Nat),FR w g st (mkF (keep.map fun q=>(q,fr q))) a
 |[],_=>.junk _
 |q::r,s=>by
  simp only[List.map_cons,mkF]
  split
  ·rename_i e; subst e; exact h s
  ·exact yI6 h r s
theorem R.keepAll{s:PS}{a:Act}{w:World}(h:R G base n w0 g0 st0 dl s a w)(keep:List Nat):R G base n w0 g0 st0 dl (PI.keepAll keep s) a w:=by
 obtain⟨g,h⟩:=h
 exact⟨g,h.go1,yI6 h.fr keep,h.gl,h.df,h.sz⟩
theorem R.restrictAt{s:PS}{a:Act}{w:World}(h:R G base n w0 g0 st0 dl s a w)(keep:List Nat)(m:Nat)(σ:List Nat)(hm1:m≤s.st.length)(hm2:st0.length≤m)(hd:σ.Nodup)(hσ:∀ k∈σ,m≤k∧k<s.st.length):R G base n w0 g0 st0 dl (restrictAt keep m σ s) a w:=by
 obtain⟨g,h⟩:=h
 exact⟨gRen m σ g,h.go1.picked hm2 hm1 hd hσ,yMi hm1 h.fr keep,h.gl.mono ⟨fun b o h=>⟨h,rfl⟩,fun _ _ h _=>h⟩,h.df,h.sz⟩
theorem Yiz{ops:Array Oper}{l:List PI}{bad:Option (Nat×Nat)}{ord:List Nat}(hord:yJa ops.size ord=true){F:List (Option Foot)}(hF:F.length=ord.length)
  (hp:∀ (p q i j:Nat),q<p→ord[p]?=some i→ord[q]?=some j→((ycr ops.toList []).getD i 0).testBit j=false→bad≠some (j,i)→Pair (l.getD j default,F.getD q none) (l.getD i default,F.getD p none)) :
  ZOK (ycr ops.toList []) l ops.size bad (ord.zip F)∧(∀ z∈ord.zip F,z.1<ops.size)∧(∀ (listed:Array Bool),(∀ i,i<ops.size→listed.getD i true=false)→Zof l (yb6 listed (ord.zip F))=(ord.map fun k=>l.getD k default).zip F):=by
 simp only[yJa,Bool.and_eq_true,beq_iff_eq,List.all_eq_true,List.mem_range]at hord
 obtain⟨h1,h2⟩:=hord
 have hsub:∀ x∈List.range ops.size,x∈ord:=fun x hx=>by simpa using h2 x (List.mem_range.1 hx)
 have hperm:ord.Perm (List.range ops.size):=(yXb _ _ List.nodup_range hsub (by rw[List.length_range]; omega)).symm
 have hnd:ord.Nodup:=hperm.nodup_iff.2 List.nodup_range
 have hlt:∀ k∈ord,k<ops.size:=fun k hk=>List.mem_range.1 (hperm.mem_iff.1 hk)
 have hmap:(ord.zip F).map (·.1)=ord:=by
  rw[List.map_fst_zip (by omega)]
 refine⟨⟨by rw[hmap]; exact hnd,?_,?_⟩,?_,?_⟩
 ·intro k hk
  have:k∈(ord.zip F).map (·.1):=by rw[hmap]; exact hsub k (List.mem_range.2 hk)
  obtain⟨z,hz,rfl⟩:=List.mem_map.1 this
  exact⟨z.2,hz⟩
 ·rw[List.pairwise_iff_getElem]
  intro q p hq hp' hqp hm hb
  have hq1:q<ord.length:=by simp at hq; omega
  have hp1:p<ord.length:=by simp at hp'; omega
  have e1:F.getD q none=F[q]:=by simp[List.getD_eq_getElem?_getD,show q<F.length by omega]
  have e2:F.getD p none=F[p]:=by simp[List.getD_eq_getElem?_getD,show p<F.length by omega]
  have:=hp p q ord[p] ord[q] hqp (List.getElem?_eq_getElem hp1) (List.getElem?_eq_getElem hq1)
  rw[e1,e2]at this
  simp only[List.getElem_zip]at hm hb ⊢
  exact this hm hb
 ·intro z hz
  exact hlt z.1 (by rw[← hmap]; exact List.mem_map_of_mem hz)
 ·intro listed hu
  have:yb6 listed (ord.zip F)=ord.zip F:=by
   simp only[yb6,List.filter_eq_self]
   intro z hz
   rw[hu z.1 (hlt z.1 (by rw[← hmap]; exact List.mem_map_of_mem hz))]
   rfl
  rw[this,Zof]
  apply List.ext_getElem?
  intro i
  rcases Nat.lt_or_ge i ord.length with h3 | h3
  ·have h4:i<F.length:=by omega
   rw[List.getElem?_eq_getElem (by simp; omega),List.getElem?_eq_getElem (by simp; omega)]
   simp
  ·rw[List.getElem?_eq_none (by simp; omega),List.getElem?_eq_none (by simp; omega)]
def exOf:Ex→Exit
 |.next=>.normal
 |.exit id=>.exit id
 |.ret=>.ret
 |.panic t d=>.panic (yh4 t d)
theorem yYc(hT:TblOK P G T)(hY:YOK P G T.y base w0 g0 st0){ops:Array Oper}{id:Nat}{draw:Bool}{h:List (List Nat)}{r:PC×List (List Nat)}(ht:trC P il n h (.region id ops draw)=some r){fuel:Nat}{s s':PS}{e:Ex}(hx:r.1.exec G T fuel s=some (e,s'))
  {a:Act} {w:World} (hR:R G base n w0 g0 st0 dl s a w) {Q:Exit→Act→World→Prop} (hQ:∀ a' w',R G base n w0 g0 st0 dl s' a' w'→Q (exOf e) a' w'):(Code.region id ops draw).wpIn (Wr ro) 0 P Q a w:=by
 have hrun:∀ l',r.1=.ops l'→e=.next∧ycg G T l' s=some s':=by
  intro l' h1
  rw[h1]at hx
  simp only[PC.exec]at hx
  split at hx
  ·rename_i s1 hs1
   simp only[Ywh,Ywj]at hx
   obtain⟨rfl,rfl⟩:=hx
   exact⟨rfl,hs1⟩
  ·cases hx
 unfold trC at ht
 cases draw with
 |false=>
  simp only[Bool.false_eq_true,if_false]at ht
  split at ht
  ·rename_i pre d1 t xo hp
   obtain⟨o1,o2,hl,h1,h3,h2,hd1,hg1,hg2,u,hu,hne⟩:=yQ6 hp
   split at ht
   case h_2=>
    simp only[Ywh]at ht
    subst ht
    simp[PC.exec]at hx
   rename_i l x hl' hx'
   simp only[Ywh]at ht
   subst ht
   simp only[PC.exec]at hx
   split at hx
   case h_2=>cases hx
   rename_i s1 hs1
   split at hx
   case isFalse=>cases hx
   rename_i hi
   simp only[Ywh,Ywj]at hx
   obtain⟨rfl,rfl⟩:=hx
   refine wpIn_region_list ?_
   rw[hl]
   exact ymp hT hY _ _ _ _ _ _ hl' hs1 hR fun a' w' hR'=>Ymf hR' h1 h3 h2 hd1 hg1 hg2 hu hne hx' hi (fun a'' hR''=>hQ a'' w' hR'')
  ·simp only[Ywi]at ht
   obtain⟨l,hl,rfl⟩:=ht
   by_cases hxl:l.any (isX il)=true
   ·simp only[hxl,if_true,PC.exec]at hx
    split at hx
    ·rename_i s1 hs1
     simp only[Ywh,Ywj]at hx
     obtain⟨rfl,rfl⟩:=hx
     exact wpIn_region_list (yzx hT hY _ _ _ _ _ _ hl hs1 hR hQ)
    ·simp only[Ywi,Ywj]at hx
     obtain⟨⟨t,d,s2⟩,hx,rfl,rfl⟩:=hx
     exact wpIn_region_list (yzw hT hY _ _ _ _ _ _ hl hx hR hQ)
   ·obtain⟨rfl,hs⟩:=hrun l (by simp only[hxl,if_false,Bool.false_eq_true])
    exact wpIn_region_list (yzx hT hY _ _ _ _ _ _ hl hs hR hQ)
 |true=>
  simp only[if_true]at ht
  split at ht
  case h_2=>cases ht
  rename_i l hl
  have hlen:=(ytr hl).1
  have hl':l.length=ops.size:=by simpa using hlen
  have hu:∀ i,i<ops.size→(Array.replicate ops.size false).getD i true=false:=by
   intro i hi
   simp[Array.getD,hi]
  have h0:(ybd ops.size (Array.replicate ops.size false)).length≤ops.size:=by
   unfold ybd
   exact Nat.le_trans (List.length_filter_le ..) (by simp)
  have hcl:yr2 ops.toList (Array.replicate ops.size false):=by
   intro i o _ hi
   rcases Nat.lt_or_ge i ops.size with h1 | h1
   ·simp[Array.getD,h1]at hi
   ·simp[Array.getD,Nat.not_lt.2 h1]at hi
  have hrg:yJa ops.size (List.range ops.size)=true:=by simp[yJa]
  have hmr:(List.range ops.size).map (fun k=>l.getD k default)=l:=by
   apply List.ext_getElem?
   intro i
   rcases Nat.lt_or_ge i ops.size with h1 | h1
   ·simp[h1,hl',List.getD_eq_getElem?_getD]
   ·simp[Nat.not_lt.2 h1,hl']
  have hend:∀ (F:List (Option Foot)),F.length=l.length→Run G T (l.zip F) s s'→e=.next→P.follows .mixedOrders=true→ynw ops.toList=true→
    (∀ (i j:Nat) (x y:PI),l[j]?=some x→l[i]?=some y→j<i→((ycr ops.toList []).getD i 0).testBit j=false→Pair (x,F.getD j none) (y,F.getD i none))→(Code.region id ops true).wpIn (Wr ro) 0 P Q a w:=by
   intro F hF hs he hmix hlex hp
   subst he
   obtain⟨k1,k2,k3⟩:=Yiz (l:=l) (bad:=none) hrg (F:=F) (by simp[hF,hl']) (fun p q i j hqp hi hj hm _=>by
    have hi1:=(List.getElem?_eq_some_iff.1 hi).1
    have hj1:=(List.getElem?_eq_some_iff.1 hj).1
    simp only[List.length_range]at hi1 hj1
    rw[List.getElem?_range hi1]at hi
    rw[List.getElem?_range hj1]at hj
    obtain rfl:=Option.some.inj hi
    obtain rfl:=Option.some.inj hj
    exact hp p q _ _ (by simp[List.getD_eq_getElem?_getD,hl',hj1]) (by simp[List.getD_eq_getElem?_getD,hl',hi1]) hqp hm)
   refine wpIn_region_any hmix (Yiv hT hY hl hlex k1 k2 hQ ops.size _ s a _ (by simp) h0 hcl ?_ hR.drew)
   rw[k3 _ hu,hmr]
   exact hs
  split at ht
  case isFalse=>
   simp only[Ywh]at ht
   subst ht
   simp[PC.exec]at hx
  rename_i hc
  simp only[Bool.and_eq_true]at hc
  have any2ok:∀ (x y:Nat) (keep:List Nat) (q1 q2:List (PI×Bool×List Nat)),yu9 (ycr ops.toList []) l (some (x,y)) (List.range ops.size)=some q1→yu9 (ycr ops.toList []) l (some (y,x)) (ord2 (ycr ops.toList []) ops.size x y)=some q2→
    yJa ops.size (ord2 (ycr ops.toList []) ops.size x y)=true→x≠y→(∀ k,k=x∨k=y→k<ops.size)→PC.exec G T fuel (.any2 keep q1 q2) s=some (e,s')→(Code.region id ops true).wpIn (Wr ro) 0 P Q a w:=by
   intro x y keep q1 q2 hq1 hq2 hio hxy hin hz
   simp only[PC.exec]at hz
   split at hz
   case h_2=>cases hz
   rename_i s1 s2 hs1 hs2
   simp only[Ywi,Ywj]at hz
   obtain⟨s3,hz,rfl,rfl⟩:=hz
   unfold Yd0 at hz
   split at hz
   case isFalse=>cases hz
   rename_i hlen1
   obtain⟨hl1,hl2,heq⟩:=hlen1
   simp only[Ywh]at hz
   subst hz
   have hk:st0.length≤s.st.length:=by
    obtain⟨g,hg⟩:=hR
    exact hg.go1.evo.len
   have alt:∀ (bad:Nat×Nat) (ord:List Nat) (q:List (PI×Bool×List Nat)) (sq:PS),yJa ops.size ord=true→yu9 (ycr ops.toList []) l (some bad) ord=some q→anys G T q [] s=some sq→
     ∃ Z,ZOK (ycr ops.toList []) l ops.size (some bad) Z∧(∀ z∈Z,z.1<ops.size)∧Run G T (Zof l (yb6 (Array.replicate ops.size false) Z)) s sq:=by
    intro bad ord q sq ho hq hsq
    obtain⟨p1,p2,p3⟩:=yNv hq
    obtain⟨F,hF,hr,hck⟩:=yno q [] s sq hsq
    obtain⟨k1,k2,k3⟩:=Yiz (l:=l) (bad:=some bad) ho (F:=F) (by rw[hF,p1]) (fun p r i j hrp hi hj hm hb=>by
     obtain⟨b,e1,e2⟩:=p3 p i hi
     have hjd:ord.getD r 0=j:=by simp[List.getD_eq_getElem?_getD,hj]
     by_cases hap:(l.getD j default).apart (l.getD i default)=true
     ·exact⟨yfe hap,.inl hap⟩
     ·have hmem:r∈yJy (ycr ops.toList []) l (some bad) ord p i:=by
       simp only[yJy,List.mem_filter,List.mem_range,hjd,hm,Bool.not_false,Bool.true_and,Bool.and_eq_true,Bool.not_eq_true',beq_eq_false_iff_ne]
       exact⟨hrp,by simpa using hap,hb⟩
      obtain⟨f,g,a1,a2,a3⟩:=hck p _ e1 r hmem
      have a4:F[r]?=some (some f):=by
       rcases a3 with a3 | ⟨_,a3⟩
       ·simp at a3
       ·simpa using a3
      have hrg:=e2 r hmem
      rw[hjd]at hrg
      refine⟨hrg,.inr ⟨f,g,?_,?_,a2⟩⟩
      ·simp[List.getD_eq_getElem?_getD,a4]
      ·simp[List.getD_eq_getElem?_getD,a1])
    refine⟨_,k1,k2,?_⟩
    rw[k3 _ hu,← p2]
    exact hr
   obtain⟨Z1,z1,z1',r1⟩:=alt (x,y) _ q1 s1 hrg hq1 hs1
   obtain⟨Z2,z2,z2',r2⟩:=alt (y,x) _ q2 s2 hio hq2 hs2
   refine wpIn_region_any hc.1 (Yiu hT hY hl hc.2 hxy (hin x (.inl rfl)) z1 z2 z1' z2' (sf1:=s1) (sf2:=s2) ?_ ?_ ops.size _ s a _ (by simp) h0 hcl (hu x (hin x (.inl rfl))) (hu y (hin y (.inr rfl))) r1 r2 hR.drew)
   ·intro a' w' hR'
    exact hQ a' w' (hR'.restrictAt keep s.st.length [s.st.length,s.st.length+1] (by omega) hk (by simp) (by simp; omega))
   ·intro a' w' hR'
    rw[← heq]at hQ
    exact hQ a' w' (hR'.restrictAt keep s.st.length [s.st.length+1,s.st.length] (by omega) hk (by simp) (by simp; omega))
  split at ht
  ·rename_i hap
   simp only[Ywh]at ht
   subst ht
   by_cases hxl:(l.any (isX il) && ordX (ycr ops.toList []) l)=true
   ·simp only[hxl,if_true,PC.exec]at hx
    simp only[Bool.and_eq_true]at hxl
    split at hx
    ·rename_i s1 hs1
     simp only[Ywh,Ywj]at hx
     obtain⟨rfl,rfl⟩:=hx
     obtain⟨F,hF,hr⟩:=yky l s s1 hs1
     refine hend F hF hr rfl hc.1 hc.2 fun i j x y hx hy hij hm=>?_
     have h1:=yod hap hx hy hij hm
     exact⟨yfe h1,.inl h1⟩
    ·simp only[Ywi,Ywj]at hx
     obtain⟨⟨t,d,s2⟩,hx,rfl,rfl⟩:=hx
     exact wpIn_region_any hc.1 (Yit hT hY hl hc.2 hap hxl.2 hx hQ _ a _ (by simp) hu hR.drew)
   obtain⟨rfl,hs⟩:=hrun l (by simp only[hxl,if_false,Bool.false_eq_true])
   obtain⟨F,hF,hr⟩:=yky l s s' hs
   refine hend F hF hr rfl hc.1 hc.2 fun i j x y hx hy hij hm=>?_
   have h1:=yod hap hx hy hij hm
   exact⟨yfe h1,.inl h1⟩
  ·split at ht
   ·rename_i x y hbad
    split at ht
    case h_2=>
     simp only[Ywh]at ht
     subst ht
     simp[PC.exec]at hx
    rename_i keep h' q1 q2 hq1 hq2
    split at ht
    case isFalse=>
     simp only[Ywh]at ht
     subst ht
     simp[PC.exec]at hx
    rename_i hio
    simp only[Bool.and_eq_true,bne_iff_ne,ne_eq]at hio
    obtain⟨hio,hxy⟩:=hio
    simp only[Ywh]at ht
    subst ht
    have hin:∀ k,k=x∨k=y→k<ops.size:=by
     intro k hk
     simp only[Yca]at hbad
     split at hbad
     ·rename_i p hp
      simp only[Ywh]at hbad
      subst hbad
      have hmem:(x,y)∈l.zipIdx.flatMap fun yi=>((l.take yi.2).zipIdx.filter fun xj=>xj.1.op.push && yi.1.op.push && !(((ycr ops.toList []).getD yi.2 0).testBit xj.2)).map fun xj=>(xj.2,yi.2):=by rw[hp]; simp
      simp only[List.mem_flatMap,List.mem_map,List.mem_filter]at hmem
      obtain⟨⟨py,iy⟩,hy1,⟨px,ix⟩,⟨hx1,_⟩,hxy1⟩:=hmem
      simp only[Ywj]at hxy1
      obtain⟨rfl,rfl⟩:=hxy1
      have h2:=List.mk_mem_zipIdx_iff_getElem?.1 hy1
      have h3:=List.mk_mem_zipIdx_iff_getElem?.1 hx1
      have h4:=(List.getElem?_eq_some_iff.1 h2).1
      have h5:=(List.getElem?_eq_some_iff.1 h3).1
      simp only[List.length_take]at h5
      rcases hk with rfl | rfl <;> omega
     ·cases hbad
    exact any2ok x y keep q1 q2 hq1 hq2 hio hxy hin hx
   split at ht
   case h_2=>
    simp only[Ywh]at ht
    subst ht
    simp[PC.exec]at hx
   rename_i q hq
   have anyok:PC.exec G T fuel (.any q) s=some (e,s')→(Code.region id ops true).wpIn (Wr ro) 0 P Q a w:=by
    intro hz
    simp only[PC.exec]at hz
    split at hz
    case h_2=>cases hz
    rename_i s1 hs1
    simp only[Ywh,Ywj]at hz
    obtain⟨rfl,rfl⟩:=hz
    obtain⟨q1,q2,q3⟩:=yDn hq
    obtain⟨F,hF,hr,hck⟩:=yno q [] s s1 hs1
    rw[q2]at hr
    refine hend F (by rw[hF,q1]) hr rfl hc.1 hc.2 fun i j x y hx hy hij hm=>?_
    obtain⟨b,h1,h2⟩:=q3 i y hy
    have hxd:l.getD j default=x:=by simp[List.getD_eq_getElem?_getD,hx]
    by_cases hap:x.apart y=true
    ·exact⟨yfe hap,.inl hap⟩
    ·have hj:j∈csOf (ycr ops.toList []) l i y:=by
      simp only[csOf,List.mem_filter,List.mem_range,hm,hxd,Bool.not_false,Bool.true_and]
      exact⟨hij,by simpa using hap⟩
     obtain⟨f,g,e1,e2,e3⟩:=hck i _ h1 j hj
     have e4:F[j]?=some (some f):=by
      rcases e3 with e3 | ⟨_,e3⟩
      ·simp at e3
      ·simpa using e3
     refine⟨by rw[← hxd]; exact h2 j hj,.inr ⟨f,g,?_,?_,e2⟩⟩
     ·simp[List.getD_eq_getElem?_getD,e4]
     ·simp[List.getD_eq_getElem?_getD,e1]
   split at ht
   ·rename_i hfl
    split at ht
    case h_2=>
     simp only[Ywh]at ht
     subst ht
     simp[PC.exec]at hx
    rename_i keep h'
    simp only[Ywh]at ht
    subst ht
    have altok:∀ (ps:List (Nat×Nat)),PC.exec G T fuel (altL keep (ycr ops.toList []) l ops.size ps) s=some (e,s')→(Code.region id ops true).wpIn (Wr ro) 0 P Q a w:=by
     intro ps
     induction ps with
     |nil=>intro hx; simp[altL,PC.exec]at hx
     |cons p ps ih=>
      obtain⟨x,y⟩:=p
      intro hx
      unfold altL at hx
      split at hx
      ·rename_i q1 q2 hq1 hq2
       split at hx
       ·rename_i hio
        simp only[Bool.and_eq_true,bne_iff_ne,ne_eq,decide_eq_true_eq]at hio
        obtain⟨⟨⟨hio,hxy⟩,hxs⟩,hys⟩:=hio
        rw[PC.exec]at hx
        split at hx
        ·rename_i r1 hr1
         rw[hx]at hr1
         exact any2ok x y keep q1 q2 hq1 hq2 hio hxy (fun k hk=>by rcases hk with rfl | rfl <;> assumption) hr1
        ·exact ih hx
       ·exact ih hx
      ·exact ih hx
    rw[PC.exec]at hx
    split at hx
    ·rename_i r1 hr1
     rw[hx]at hr1
     exact anyok hr1
    ·exact altok _ hx
   split at ht
   ·rename_i hxi
    simp only[Bool.and_eq_true]at hxi
    simp only[Ywh]at ht
    subst ht
    obtain⟨hi0,o1,o2⟩:=ySc hxi.2
    generalize yP2 il l=i0 at*
    unfold anyX at hx
    rw[PC.exec]at hx
    split at hx
    ·rename_i r1 hr1
     rw[hx]at hr1
     exact anyok hr1
    ·simp only[PC.exec]at hx
     cases hs1:anys G T (q.take i0) [] s with
     |none=>simp[hs1]at hx
     |some s1=>
      simp only[hs1,ycg,yhn]at hx
      cases hs2:(l.getD i0 default).exec G T s1 with
      |some s2=>simp only[hs2,reduceCtorEq]at hx
      |none=>
       simp only[hs2]at hx
       cases hs3:(l.getD i0 default).execX G T s1 with
       |none=>simp only[hs3,Option.map_none,reduceCtorEq]at hx
       |some r3=>
        obtain⟨t,d,s3⟩:=r3
        simp only[hs3,Option.map_some,Ywh,Ywj]at hx
        obtain⟨rfl,rfl⟩:=hx
        obtain⟨q1,q2,q3⟩:=yDn hq
        obtain⟨F,hF,hr,hck⟩:=yno _ [] s s1 hs1
        have hFl:F.length=i0:=by rw[hF,List.length_take]; omega
        have hqt:(q.take i0).map (·.1)=l.take i0:=by rw[List.map_take,q2]
        rw[hqt]at hr
        refine wpIn_region_any hc.1 (yKq hT hY hl hc.2 hi0 o1 o2 hFl (fun i j hij hi hm=>?_) hr hs3 hQ _ a _ (by simp) hu hR.drew)
        have hyi:l[i]?=some (l.getD i default):=by simp[List.getD_eq_getElem?_getD,show i<l.length by omega]
        obtain⟨b,h1,h2⟩:=q3 i _ hyi
        by_cases hap:(l.getD j default).apart (l.getD i default)=true
        ·exact⟨yfe hap,.inl hap⟩
        ·have hj:j∈csOf (ycr ops.toList []) l i (l.getD i default):=by
          simp only[csOf,List.mem_filter,List.mem_range,hm,Bool.not_false,Bool.true_and]
          exact⟨hij,by simpa using hap⟩
         have h1':(q.take i0)[i]?=some (l.getD i default,b,csOf (ycr ops.toList []) l i (l.getD i default)):=by
          rw[List.getElem?_take,if_pos hi]; exact h1
         obtain⟨f,g,e1,e2,e3⟩:=hck i _ h1' j hj
         have e4:F[j]?=some (some f):=by
          rcases e3 with e3 | ⟨_,e3⟩
          ·simp at e3
          ·simpa using e3
         refine⟨h2 j hj,.inr ⟨f,g,?_,?_,e2⟩⟩
         ·simp[List.getD_eq_getElem?_getD,e4]
         ·simp[List.getD_eq_getElem?_getD,e1]
   ·simp only[Ywh]at ht
    subst ht
    exact anyok hx
theorem yH6{st:St}{k:Nat}{n:Int}(h:recAt st k=some n):∃ o,st[k]?=some o∧o.row=false∧o.sz=1000003∧o.els=[.int .i64 n]:=by
 unfold recAt at h
 split at h
 case h_2=>cases h
 rename_i o ho
 split at h
 case isFalse=>cases h
 rename_i hc
 simp only[Bool.and_eq_true,Bool.not_eq_true',beq_iff_eq]at hc
 split at h
 case h_2=>cases h
 rename_i n' hels
 obtain rfl:=Option.some.inj h
 exact⟨o,ho,hc.1,hc.2,hels⟩
theorem SR.recAt{base:Nat}{w:World}{g:Ghost}{st:St}(h:SR base w g st){k:Nat}{o:Obj}(ho:st[k]?=some o)(h1:o.row=false)(h2:o.sz=1000003):Yiy base w (g.β k) o:=
 (h.mp k o ho (by simp[Obj.isMap,h1,h2])).rec' h2
theorem Go1.recO{base:Nat}{w w':World}{g g':Ghost}{st st':St}(h:Go1 base w g st w' g' st'){k:Nat}{o:Obj}(ho:st[k]?=some o)(h1:o.row=false)(h2:o.sz=1000003) :
  g'.β k=g.β k∧∃ o',st'[k]?=some o'∧o'.row=false∧o'.sz=1000003:=by
 obtain⟨o',e1,e2,e3,_,_,e6⟩:=h.evo k o ho
 exact⟨e6 h1,o',e1,e2.trans h1,e3.trans h2⟩
theorem yUl{w:World}{l:Nat}{x:Go.Obj}:Beside w (w.putObj l x):=⟨rfl,rfl,rfl,by rw[World.putObj_size]; exact Nat.le_refl _⟩
theorem Go1.putRec{base:Nat}{w:World}{g:Ghost}{st:St}(h:SR base w g st){l k:Nat}{o:Obj}{r:Loop}{n:Int}{s:_}{p:Option Code}(hk:st[k]?=some o)(hrow:o.row=false)(hsz:o.sz=1000003)
  (hl:g.β k=l) (hr:w.heap[l]?=some (.loop r)) (h0:n=0→s=.ready∧p=none) (h1:n=1→s=.done∧p=some .ret) :
  Go1 base w g st (w.putObj l (.loop {r with state:=s,pending:=p})) g (st.set k (PI.recO n)):=by
 subst hl
 exact h.updRec (s:=s) (p:=p) hk hrow hsz yUl (fun b hb=>World.putObj_heap_other hb) hr (World.putObj_heap_same (Array.getElem?_eq_some_iff.1 hr).1) h0 h1
theorem yjq(hT:TblOK P G T):∀ (c:Code) (ro:Option Nat) (_:ro=none∨yd8 c=true) (w0:World) (g0:Ghost) (st0:St) (dl:List Deferred) (_:YOK P G T.y base w0 g0 st0) (_:base≤w0.heap.size) (h:List (List Nat)) (r:PC×List (List Nat)),trC P il n h c=some r→∀ (fuel:Nat) (s s':PS) (e:Ex),r.1.exec G T fuel s=some (e,s')→
  ∀ (a:Act) (w:World) (Q:Exit→Act→World→Prop),R G base n w0 g0 st0 dl s a w→(∀ a' w',R G base n w0 g0 st0 dl s' a' w'→Q (exOf e) a' w')→c.wpIn (Wr ro) 0 P Q a w:=by
 intro c
 induction c with
 |skip=>
  intro ro hro w0 g0 st0 dl hY hb0 h r ht fuel s s' e hx a w Q hR hQ
  simp only[trC,Ywh]at ht; subst ht
  simp only[PC.exec,Ywh,Ywj]at hx
  obtain⟨rfl,rfl⟩:=hx
  exact wpIn_skip (hQ a w hR)
 |exit id=>
  intro ro hro w0 g0 st0 dl hY hb0 h r ht fuel s s' e hx a w Q hR hQ
  simp only[trC,Ywh]at ht; subst ht
  simp only[PC.exec,Ywh,Ywj]at hx
  obtain⟨rfl,rfl⟩:=hx
  exact wpIn_exit (hQ a w hR)
 |ret=>
  intro ro hro w0 g0 st0 dl hY hb0 h r ht fuel s s' e hx a w Q hR hQ
  simp only[trC,Ywh]at ht; subst ht
  simp only[PC.exec,Ywh,Ywj]at hx
  obtain⟨rfl,rfl⟩:=hx
  exact wpIn_ret (hQ a w hR)
 |region id ops draw=>
  intro ro hro w0 g0 st0 dl hY hb0 h r ht fuel s s' e hx a w Q hR hQ
  exact yYc hT hY ht hx hR hQ
 |seq x y ihx ihy=>
  intro ro hro w0 g0 st0 dl hY hb0 h r ht fuel s s' e hx a w Q hR hQ
  unfold trC at ht
  split at ht
  case h_2=>cases ht
  rename_i px h1 hx1
  split at ht
  case h_2=>cases ht
  rename_i py h2 hy1
  simp only[Ywh]at ht; subst ht
  simp only[PC.exec]at hx
  refine wpIn_seq ?_
  split at hx
  ·rename_i s1 hs1
   exact ihx ro (hro.imp (fun h=>h) fun h=>by simp only[yd8,Bool.and_eq_true]at h; exact h.1) w0 g0 st0 dl hY hb0 _ _ hx1 fuel s s1 .next hs1 a w _ hR fun a' w' hR'=>ihy ro (hro.imp (fun h=>h) fun h=>by simp only[yd8,Bool.and_eq_true]at h; exact h.2) w0 g0 st0 dl hY hb0 _ _ hy1 fuel s1 s' e hx a' w' Q hR' hQ
  ·rename_i e1 s1 hne hs1
   simp only[Ywh,Ywj]at hx
   obtain⟨rfl,rfl⟩:=hx
   refine ihx ro (hro.imp (fun h=>h) fun h=>by simp only[yd8,Bool.and_eq_true]at h; exact h.1) w0 g0 st0 dl hY hb0 _ _ hx1 fuel s _ _ hs1 a w _ hR fun a' w' hR'=>?_
   cases e1 with
   |next=>exact(hne rfl).elim
   |exit id=>exact hQ a' w' hR'
   |ret=>exact hQ a' w' hR'
   |panic t d=>exact hQ a' w' hR'
  ·cases hx
 |cond c x y ihx ihy=>
  intro ro hro w0 g0 st0 dl hY hb0 h r ht fuel s s' e hx a w Q hR hQ
  unfold trC at ht
  split at ht
  case h_2=>cases ht
  rename_i pa hpa
  split at ht
  case h_2=>cases ht
  rename_i px h1 hx1
  split at ht
  case h_2=>cases ht
  rename_i py h2 hy1
  simp only[Ywh]at ht; subst ht
  simp only[PC.exec]at hx
  obtain⟨g,hg⟩:=id hR
  have hc:=ybf (G:=G) hg.gl hg.fr hpa
  split at hx
  ·rename_i hb
   rw[hb]at hc
   exact wpIn_cond_true (yfl hc) (ihx ro (hro.imp (fun h=>h) fun h=>by simp only[yd8,Bool.and_eq_true]at h; exact h.1) w0 g0 st0 dl hY hb0 _ _ hx1 fuel s s' e hx a w Q hR hQ)
  ·rename_i hb
   rw[hb]at hc
   exact wpIn_cond_false (yfl hc) (ihy ro (hro.imp (fun h=>h) fun h=>by simp only[yd8,Bool.and_eq_true]at h; exact h.2) w0 g0 st0 dl hY hb0 _ _ hy1 fuel s s' e hx a w Q hR hQ)
  ·cases hx
 |block id c ih=>
  intro ro hro w0 g0 st0 dl hY hb0 h r ht fuel s s' e hx a w Q hR hQ
  unfold trC at ht
  split at ht
  case h_2=>cases ht
  rename_i px h1 hx1
  simp only[Ywh]at ht; subst ht
  simp only[PC.exec]at hx
  refine wpIn_block ?_
  split at hx
  ·rename_i id' s1 hs1
   refine ih ro (hro.imp (fun h=>h) fun h=>by simpa only[yd8]using h) w0 g0 st0 dl hY hb0 _ _ hx1 fuel s s1 _ hs1 a w _ hR fun a' w' hR'=>?_
   split at hx
   ·rename_i he
    simp only[Ywh,Ywj]at hx
    obtain⟨rfl,rfl⟩:=hx
    simpa[exOf,Exit.inBlock,he]using hQ a' w' hR'
   ·rename_i he
    simp only[Ywh,Ywj]at hx
    obtain⟨rfl,rfl⟩:=hx
    simpa[exOf,Exit.inBlock,he]using hQ a' w' hR'
  ·rename_i e1 s1 hne hs1
   simp only[Ywh,Ywj]at hx
   obtain⟨rfl,rfl⟩:=hx
   refine ih ro (hro.imp (fun h=>h) fun h=>by simpa only[yd8]using h) w0 g0 st0 dl hY hb0 _ _ hx1 fuel s _ _ hs1 a w _ hR fun a' w' hR'=>?_
   cases e1 with
   |next=>exact hQ a' w' hR'
   |exit id=>exact(hne _ rfl).elim
   |ret=>exact hQ a' w' hR'
   |panic t d=>exact hQ a' w' hR'
  ·cases hx
 |loop c ih=>
  intro ro hro w0 g0 st0 dl hY hb0 h r ht fuel s s' e hx a w Q hR hQ
  unfold trC at ht
  split at ht
  case h_2=>cases ht
  rename_i keep h'
  split at ht
  case h_2=>cases ht
  rename_i px h1 hx1
  simp only[Ywh]at ht; subst ht
  have hk:st0.length≤s.st.length:=by
   obtain⟨g,hg⟩:=hR
   exact hg.go1.evo.len
  obtain⟨cut,hcut,hx⟩:∃ cut:PS→PS,(∀ s a w,R G base n w0 g0 st0 dl s a w→R G base n w0 g0 st0 dl (cut s) a w)∧ypx (px.exec G T fuel) cut fuel s=some (e,s'):=by
   split at hx
   ·exact⟨keepAll keep.tail,fun _ _ _ h=>h.keepAll _,by simpa only[PC.exec]using hx⟩
   ·exact⟨PI.restrict keep s.st.length,fun _ _ _ h=>h.restrict _ _ hk,by simpa only[PC.exec]using hx⟩
  refine wpIn_loop_ghost (fun m a w=>∃ s1,ypx (px.exec G T fuel) (cut) m s1=some (e,s')∧R G base n w0 g0 st0 dl s1 a w) fuel ⟨s,hx,hR⟩ ?_
  rintro m a w ⟨s1,hl,hR1⟩
  cases m with
  |zero=>simp[ypx]at hl
  |succ m=>
   simp only[ypx]at hl
   split at hl
   ·rename_i s2 hs2
    exact ih ro (hro.imp (fun h=>h) fun h=>by simpa only[yd8]using h) w0 g0 st0 dl hY hb0 _ _ hx1 fuel _ s2 .next hs2 a w _ (hcut _ _ _ hR1) fun a' w' hR'=>⟨m,Nat.lt_succ_self m,s2,hl,hR'⟩
   ·rename_i e1 s2 hne hs2
    simp only[Ywh,Ywj]at hl
    obtain⟨rfl,rfl⟩:=hl
    refine ih ro (hro.imp (fun h=>h) fun h=>by simpa only[yd8]using h) w0 g0 st0 dl hY hb0 _ _ hx1 fuel _ _ _ hs2 a w _ (hcut _ _ _ hR1) fun a' w' hR'=>?_
    cases e1 with
    |next=>exact(hne rfl).elim
    |exit id=>exact hQ a' w' hR'
    |ret=>exact hQ a' w' hR'
    |panic t d=>exact hQ a' w' hR'
   ·cases hl
 |rangeFunc gf ps asg body iha ihb=>
  intro ro hro w0 g0 st0 dl hY hb0 h r ht fuel s s' e hx a w Q hR hQ
  unfold trC at ht
  split at ht
  case h_2=>cases ht
  rename_i pa hpa
  split at ht
  case h_2=>cases ht
  rename_i pca h1 hx1
  split at ht
  case h_2=>cases ht
  rename_i pcb h2 hy1
  split at ht
  case isFalse=>
   simp only[Ywh]at ht; subst ht
   simp[PC.exec]at hx
  rename_i hc
  simp only[Bool.and_eq_true]at hc
  obtain⟨⟨hna,hnb⟩,hps⟩:=hc
  simp only[Ywh]at ht; subst ht
  obtain rfl:ro=none:=hro.resolve_right (by simp[yd8])
  simp only[PC.exec,Option.bind_eq_some_iff,Ywi,Ywj]at hx
  obtain⟨st'',hrr,e0,hex,rfl,rfl⟩:=hx
  unfold yE6 at hrr
  split at hrr
  case h_2=>cases hrr
  rename_i f caps hclo
  split at hrr
  case isFalse=>cases hrr
  rename_i hlt
  split at hrr
  case h_2=>cases hrr
  rename_i sp hsp
  simp only[Ywi,Prod.exists]at hrr
  obtain⟨dr,st3,hrun,rfl⟩:=hrr
  obtain⟨g,hg⟩:=hR
  have hrep:=ybf (G:=G) hg.gl hg.fr hpa
  rw[hclo]at hrep
  generalize hxv:a.eval gf=xv at hrep
  cases hrep with
  |clo _ _ us hlen hus=>
   rw[yv8 hlt,yq9 hlt,yu3 hlt]at hxv
   obtain⟨⟨fn,hfn,hbody,hname⟩,hcon⟩:=hT.r f sp hsp
   refine wpIn_rangeFunc fun fnid _=>?_
   -- the two new blocks
   have hlw:w.heap.size+1=(w.alloc (.deferred (some []))).heap.size:=by rw[World.size_alloc]
   generalize hrec:({state:=.ready,pending:=none,fn:=fnid,tmps:=a.tmps,params:=ps,assign:=asg,body:=body,defers:=w.heap.size}:Loop)=rec
   generalize hw1:((w.alloc (.deferred (some []))).alloc (.loop rec))=w1
   have hs1:w1.heap.size=w.heap.size+2:=by rw[← hw1,World.size_alloc,World.size_alloc]
   have hold:∀ b,b<w.heap.size→w1.heap[b]?=w.heap[b]?:=by
    intro b hb
    rw[← hw1]
    show((w.heap.push (.deferred (some []))).push (.loop rec))[b]?=_
    rw[Array.getElem?_push,if_neg (by simp; omega),Array.getElem?_push,if_neg (by omega)]
   have hD:w1.heap[w.heap.size]?=some (.deferred (some [])):=by
    rw[← hw1]
    show((w.heap.push (.deferred (some []))).push (.loop rec))[w.heap.size]?=_
    rw[Array.getElem?_push,if_neg (by simp),Array.getElem?_push,if_pos rfl]
   have hL:w1.heap[w.heap.size+1]?=some (.loop rec):=by
    rw[← hw1]
    show((w.heap.push (.deferred (some []))).push (.loop rec))[w.heap.size+1]?=_
    rw[Array.getElem?_push,if_pos (by simp)]
   have hready:rec.state=.ready∧rec.pending=none:=by rw[← hrec]; exact⟨rfl,rfl⟩
   have hgo1:Go1 base w g s.st w1 {g with β:=upd g.β s.st.length (w.heap.size+1)} (s.st++[recO 0]):=by
    have hbes:Beside w w1:=by rw[← hw1]; exact⟨rfl,rfl,rfl,by rw[World.size_alloc,World.size_alloc]; omega⟩
    exact hg.sr.pushRec (by omega) hbes hold hL hready
   generalize hg1:({g with β:=upd g.β s.st.length (w.heap.size+1)}:Ghost)=g1 at hgo1
   have hβ1:g1.β s.st.length=w.heap.size+1:=by rw[← hg1]; exact ybn _ _ _
   have hk1:(s.st++[recO 0])[s.st.length]?=some (recO 0):=by simp
   have henter:(Instr.enterLoop fnid a.tmps ps asg body (Wr none).round).run P w=.ok (w.heap.size+1,[{target:=.collected w.heap.size,args:=#[]}]) w1:=by
    rw[← hw1,← hrec]
    exact run_enterLoop_outer fnid a.tmps ps asg body
   refine⟨w.heap.size+1,[{target:=.collected w.heap.size,args:=#[]}],w1,{target:=.fn (.func f) us.toArray,args:=#[.func (.yield (w.heap.size+1)) #[] #[]]},w1,f,(Value.func (.yield (w.heap.size+1)) #[] #[]::us).toArray,w1,henter,?_,fun _ _=>trivial,?_,(fun e=>by cases e),?_⟩
   ·have hk:∀ v,a.eval (.const v)=v:=fun _=>rfl
    simp[resolve,hxv,Deferred.ofValue,hk]
   ·have hbn:¬ fn.body=none:=by
     intro e; rw[e]at hbody; cases hbody
    have hn':¬ fn.name= "runtime.NumGoroutine":=by simpa using hname
    simp[invoke,callFunc,hfn,hn',hbn]
   ·refine CallsIn.mono (callsIn_wide.2 (hcon base w1 g1 (s.st++[recO 0]) st3 caps us dr (w.heap.size+1) _ ?_ hrun hgo1.sr (hg.gl.mono hgo1.im) hlen (fun i d v hd hv=>hgo1.rep (hus i d v hd hv)))) ?_
    ·
     intro l' w2 g2 st2 st2' ds vs d2 hgo2 hG2 hy hl2 hr2
     replace hy:(if l'=w.heap.size+1 then yOh (PC.exec G T fuel pca) (PC.exec G T fuel pcb) s.fr ps.toList s.st.length ds st2 else none)=some (d2,st2'):=hy
     split at hy
     case isFalse=>cases hy
     rename_i hll
     subst hll
     unfold yOh at hy
     split at hy
     case isFalse=>cases hy
     rename_i hdl
     split at hy
     case h_2=>cases hy
     rename_i sa hsa
     split at hy
     case isFalse=>cases hy
     rename_i hrec0
     obtain⟨s2,p2,hL2⟩:=(hgo2.kp _ _ hL rfl).loop
     have hpsz:ps.size=vs.length:=by rw[← hl2,hdl]; simp
     refine⟨fnid,_,asg,body,by rw[run_yield hL2 (by rw[← hrec]; simp[hpsz]),← hrec],?_⟩
     have hYw2:YOK P G T.y base w2 g2 st2:=hY.mono (hg.go1.trans (hgo1.trans hgo2))
     have hbl:base≤w.heap.size:=hg.sr.size
     have hfold:(ps.zip vs.toArray).foldl (fun tmps x=>tmps.setIfInBounds x.1 x.2) a.tmps=(ps.toList.zip vs).foldl (fun tmps p=>tmps.setIfInBounds p.1 p.2) a.tmps:=by
      rw[← Array.foldl_toList]; simp
     refine roundIn_of_wpIn trivial ?_
     show asg.wpIn (Wr (some (w.heap.size+1))) 0 P _ _ w2
     refine iha (some (w.heap.size+1)) (.inr hna) w2 g2 st2 [] hYw2 (Nat.le_trans hbl (Nat.le_trans (by omega) (hgo1.trans hgo2).below.size)) _ _ hx1 fuel _ sa .next hsa _ w2 _ ⟨g2,Go1.refl hgo2.sr,?_,hG2,⟨[],rfl,trivial⟩,?_⟩ ?_
     ·have hF2:FR w2 g2 st2 s.fr a:=hg.fr.mono (hgo1.trans hgo2).im (hgo1.trans hgo2).evo
      have:=yV6 (x:=[]) ps.toList ds vs s.fr a.tmps (by simpa using hdl) hl2 (fun p hp=>by
       have:=List.all_eq_true.1 hps p hp
       have:=of_decide_eq_true this
       exact Nat.lt_of_lt_of_le this hg.sz) hF2 hr2
      rw[← hfold]at this
      exact this
     ·have:=yrw (ps.toList.zip vs) a.tmps
      rw[← hfold]at this
      exact Nat.le_trans hg.sz (Nat.le_of_eq this.symm)
     ·rintro a3 w3 ⟨g3,h3⟩
      have hgo13:=hgo2.trans h3.go1
      obtain⟨o3,ho3,hro3,hso3,hels3⟩:=yH6 hrec0
      have hβ3:g3.β s.st.length=w.heap.size+1:=(hgo13.recO hk1 rfl rfl).1.trans hβ1
      obtain⟨r3,n3,hb3,_,hn3,hz3,_⟩:=h3.go1.sr.recAt ho3 hro3 hso3
      rw[hβ3]at hb3
      rw[hels3]at hn3
      have hn0:n3=0:=by simpa using hn3.symm
      have hready3:r3.state=.ready:=(hz3 hn0).1
      refine⟨_,run_beginRound hb3 hready3,?_⟩
      have hgo4:=Go1.putRec (n:=2) (s:=.busy) (p:=r3.pending) h3.go1.sr ho3 hro3 hso3 hβ3 hb3 (fun e=>by cases e) (fun e=>by cases e)
      have hlt3:w.heap.size+1<w3.heap.size:=(Array.getElem?_eq_some_iff.1 hb3).1
      show body.wpIn (Wr (some (w.heap.size+1))) 0 P _ _ (w3.putObj (w.heap.size+1) (.loop {r3 with state:=.busy,pending:=r3.pending}))
      generalize hw4:w3.putObj (w.heap.size+1) (.loop {r3 with state:=.busy,pending:=r3.pending})=w4 at hgo4
      have hgo04:=hg.go1.trans (hgo1.trans (hgo13.trans hgo4))
      have hk4:(sa.st.set s.st.length (recO 2))[s.st.length]?=some (recO 2):=by
       have:=(List.getElem?_eq_some_iff.1 ho3).1
       simp[this]
      -- the body's end,and what is said of the record
      have fin:∀ (sb:PS) (a5:Act) (w5:World) (nn:Int) (jump:Option Code) (b:Bool),R G base n w4 g3 (sa.st.set s.st.length (recO 2)) a3.defers sb a5 w5→b=jump.isNone→(nn=0→jump=none)→(nn=1→jump=some .ret)→
        ∃ v w',(Instr.endRound (w.heap.size+1) jump).run P w5=.ok v w'∧∃ v' g',(Ending.returned v:Ending)=.returned v'∧Go1 base w2 g2 st2 w' g' (sb.st.set s.st.length (recO nn))∧RepV w' g' (sb.st.set s.st.length (recO nn)) (.bool b) v':=by
       rintro sb a5 w5 nn jump b ⟨g5,h5⟩ hb hj0 hj1
       obtain⟨hβ5,o5,ho5,hro5,hso5⟩:=h5.go1.recO hk4 rfl rfl
       obtain⟨r5,n5,hb5,_⟩:=h5.go1.sr.recAt ho5 hro5 hso5
       rw[hβ5,hβ3]at hb5
       have hgo6:=Go1.putRec (n:=nn) (s:=if jump.isNone then .ready else .done) (p:=jump) h5.go1.sr ho5 hro5 hso5 (hβ5.trans hβ3) hb5
        (fun e=>by rw[hj0 e]; exact⟨rfl,rfl⟩) (fun e=>by rw[hj1 e]; exact⟨rfl,rfl⟩)
       refine⟨_,_,run_endRound jump hb5,.bool jump.isNone,g5,rfl,h3.go1.trans (hgo4.trans (h5.go1.trans hgo6)),?_⟩
       rw[hb]; exact .bool _
      split at hy
      ·rename_i sb hsb
       simp only[Ywh,Ywj]at hy
       obtain⟨rfl,rfl⟩:=hy
       refine ihb (some (w.heap.size+1)) (.inr hnb) w4 g3 _ a3.defers (hY.mono hgo04) (Nat.le_trans hb0 hgo04.below.size) _ _ hy1 fuel _ sb .next hsb _ w4 _ ⟨g3,Go1.refl hgo4.sr,h3.fr.mono hgo4.im hgo4.evo,h3.gl.mono hgo4.im,⟨[],rfl,trivial⟩,h3.sz⟩ ?_
       exact fun a5 w5 h5=>fin sb a5 w5 0 none true h5 rfl (fun _=>rfl) (fun e=>by cases e)
      ·rename_i sb hsb
       simp only[Ywh,Ywj]at hy
       obtain⟨rfl,rfl⟩:=hy
       refine ihb (some (w.heap.size+1)) (.inr hnb) w4 g3 _ a3.defers (hY.mono hgo04) (Nat.le_trans hb0 hgo04.below.size) _ _ hy1 fuel _ sb .ret hsb _ w4 _ ⟨g3,Go1.refl hgo4.sr,h3.fr.mono hgo4.im hgo4.evo,h3.gl.mono hgo4.im,⟨[],rfl,trivial⟩,h3.sz⟩ ?_
       exact fun a5 w5 h5=>fin sb a5 w5 1 (some .ret) false h5 rfl (fun e=>by cases e) (fun _=>rfl)
      ·cases hy
    ·rintro e w3 ⟨v,g3,rfl,hgo3,_⟩
     obtain⟨hβ3,_⟩:=hgo3.recO hk1 rfl rfl
     rw[hβ1]at hβ3
     have hD3:w3.heap[w.heap.size]?=some (.deferred (some [])):=(hgo3.kp _ _ hD rfl).def'
     have hbl:base≤w.heap.size:=hg.sr.size
     unfold Yl7 at hex
     split at hex
     case h_2=>cases hex
     rename_i n3 hrec3
     obtain⟨o3,ho3,hro3,hso3,hels3⟩:=yH6 hrec3
     obtain⟨r3,n3',hb3,_,hn3,hz3,ho1⟩:=hgo3.sr.recAt ho3 hro3 hso3
     rw[hβ3]at hb3
     rw[hels3]at hn3
     have hn0:n3'=n3:=by simpa using hn3.symm
     subst hn0
     have hnb3:r3.state≠.busy:=by
      split at hex
      ·rename_i e; rw[(hz3 e).1]; simp
      ·split at hex
       ·rename_i e; rw[(ho1 e).1]; simp
       ·cases hex
     have hgo4':=Go1.putRec (n:=2) (s:=.exhausted) (p:=r3.pending) hgo3.sr ho3 hro3 hso3 hβ3 hb3 (fun e=>by cases e) (fun e=>by cases e)
     have hgo4:=hgo1.trans (hgo3.trans hgo4')
     have hRn:R G base n w0 g0 st0 dl ⟨s.fr,st3.set s.st.length (recO 2)⟩ {a with defers:=[{target:=.collected w.heap.size,args:=#[]}]++a.defers} (w3.putObj (w.heap.size+1) (.loop {r3 with state:=.exhausted,pending:=r3.pending})):=by
      refine⟨g3,hg.go1.trans hgo4,hg.fr.mono hgo4.im hgo4.evo,hg.gl.mono hgo4.im,?_,hg.sz⟩
      obtain⟨dd,hd1,hd2⟩:=hg.df
      refine⟨{target:=.collected w.heap.size,args:=#[]}::dd,by simp[hd1],⟨w.heap.size,rfl,?_,?_,?_⟩,hd2.mono hgo4.kp⟩
      ·rw[World.putObj_heap_other (by omega)]; exact hD3
      ·have:=hg.go1.below.size
       exact Array.getElem?_eq_none (by omega)
      ·intro d' hd' e
       obtain⟨D',h1,h2⟩:=hd2.mem hd'
       rw[e]at h1
       have:w.heap.size=D':=by simpa using h1
       rw[← this,Array.getElem?_eq_none (Nat.le_refl _)]at h2
       cases h2
     refine⟨r3.pending,_,run_endLoop hb3 hnb3,?_⟩
     split at hex
     ·rename_i e
      obtain rfl:=Option.some.inj hex
      have hp:=(hz3 e).2
      rw[hp]
      have:=hQ _ _ hRn
      rw[hp]at this
      simpa[exOf]using this
     ·split at hex
      ·rename_i e
       obtain rfl:=Option.some.inj hex
       have hp:=(ho1 e).2
       rw[hp]
       have:=hQ _ _ hRn
       rw[hp]at this
       exact wpIn_ret (by simpa[exOf]using this)
      ·cases hex
 |_=>
  intro ro hro w0 g0 st0 dl hY hb0 h r ht fuel s s' e hx
  simp only[trC,Ywh]at ht; subst ht
  simp[PC.exec]at hx
theorem ySw{t:TypeId}{v u:Value}{w:World}(h:(Instr.loadAt t v).run P w=.ok u w):(do loadVar t (← asAddr v):Sem Value).run P w=.ok u w:=by
 cases v with
 |pointer a=>
  cases a with
  |none=>simp[Instr.loadAt,Instr.sureAddr]at h
  |some a=>simpa[Instr.loadAt,Instr.sureAddr,asAddr]using h
 |_=>simp[Instr.loadAt,Instr.sureAddr]at h
def yH3(tmps:Array Value):ResultVar→Sem Value
 |.tmp t=>pure (tmps.getD t undef)
 |.cell a t=>do loadVar t (← asAddr (tmps.getD a undef))
theorem yAg{s:PS}:∀ {l:List PRes} {ys:List D},gets s l=some ys→∃ ds,raws s l=some ds∧imms s.st ds=some ys
 |[],ys,h=>by simp[gets]at h; subst h; exact⟨[],rfl,rfl⟩
 |r::l,ys,h=>by
  unfold gets at h
  split at h
  case h_2=>cases h
  rename_i x y hx hy
  simp only[Ywh]at h; subst h
  obtain⟨ds,h1,h2⟩:=yAg hy
  cases r with
  |tmp t=>
   exact⟨s.fr t::ds,by simp[raws,h1],by simp only[PRes.get]at hx; simp[imms,hx,h2]⟩
  |cell t n ag=>
   simp only[PRes.get]at hx
   split at hx
   ·rename_i d hd
    exact⟨d::ds,by simp[raws,hd,h1],by simp[imms,hx,h2]⟩
   ·cases hx
theorem yqy{s:PS}{a:Act}{w:World}{g:Ghost}(hS:SR base w g s.st)(hF:FR w g s.st s.fr a):∀ {rs:List ResultVar} {l:List PRes} {ds:List D},yD5 P rs=some l→raws s l=some ds→
  ∃ vs:List Value,ds.length=vs.length∧(∀ (i:Nat) d v,ds[i]?=some d→vs[i]?=some v→RepV w g s.st d v)∧
   (rs.mapM (yH3 a.tmps)).run P w=.ok vs w
 |[],l,ds,ht,hr=>by
  simp[yD5]at ht; subst ht
  simp[raws]at hr; subst hr
  exact⟨[],rfl,fun i d v h=>by simp at h,rfl⟩
 |.tmp t::rs,l,ds,ht,hr=>by
  simp only[yD5,Ywi]at ht
  obtain⟨l',h1,rfl⟩:=ht
  simp only[raws,Ywi]at hr
  obtain⟨ds',h2,rfl⟩:=hr
  obtain⟨vs,e1,e2,e3⟩:=yqy hS hF h1 h2
  refine⟨a.tmps.getD t undef::vs,by simp[e1],?_,?_⟩
  ·intro i d v hd hv
   cases i with
   |zero=>simp only[List.getElem?_cons_zero,Ywh]at hd hv; subst hd; subst hv; exact hF t
   |succ i=>simp only[List.getElem?_cons_succ]at hd hv; exact e2 i d v hd hv
  ·simp only[List.mapM_cons,yH3,Sem.run_bind,Sem.run_pure,Result.andThen_ok,e3]
 |.cell b t::rs,l,ds,ht,hr=>by
  unfold yD5 at ht
  split at ht
  case h_2=>cases ht
  rename_i n ag l' hn ha h1
  simp only[Ywh]at ht; subst ht
  unfold raws at hr
  split at hr
  case h_2=>cases hr
  rename_i x y hx hy
  simp only[Ywh]at hr; subst hr
  obtain⟨vs,e1,e2,e3⟩:=yqy hS hF h1 hy
  obtain⟨u,u1,u2⟩:=yIc hS ha hn hx (hF b)
  refine⟨u::vs,by simp[e1],?_,?_⟩
  ·intro i d v hd hv
   cases i with
   |zero=>simp only[List.getElem?_cons_zero,Ywh]at hd hv; subst hd; subst hv; exact u2
   |succ i=>simp only[List.getElem?_cons_succ]at hd hv; exact e2 i d v hd hv
  ·have u3:=ySw u1
   simp only[List.mapM_cons]
   rw[Sem.run_bind,show(yH3 a.tmps (.cell b t)).run P w=.ok u w from u3]
   simp only[Result.andThen_ok,Sem.run_bind,Sem.run_pure,e3]
def Ye6:List Value→Value
 |[v]=>v
 |vs=>.tuple vs.toArray
theorem ynp{fn:Func}{tmps:Array Value}{w:World}{vs:List Value}
  (h:(fn.results.toList.mapM (yH3 tmps)).run P w=.ok vs w) :
  (results fn tmps).run P w=.ok (Ye6 vs) w:=by
 have hres:results fn tmps=(do let vs ← fn.results.mapM (yH3 tmps); pure (if h:vs.size=1 then vs[0]else .tuple vs)):=rfl
 rw[hres,Sem.run_bind,Array.mapM_eq_mapM_toList]
 rw[Sem.run_map,h]
 simp only[Result.andThen_ok,Sem.run_pure]
 match vs with
 |[]=>rfl
 |[v]=>rfl
 |_::_::_=>simp[Ye6]
theorem yuj{w:World}{g:Ghost}{st:St}{ds:List D}{vs:List Value}(hl:ds.length=vs.length)(h:∀ (i:Nat) d v,ds[i]?=some d→vs[i]?=some v→RepV w g st d v) :
  RepV w g st (pack ds) (Ye6 vs):=by
 match ds,vs,hl with
 |[],[],_=>exact .tup [] [] rfl h
 |[d],[v],_=>exact h 0 d v rfl rfl
 |_::_::_,_::_::_,hl=>exact .tup _ _ hl h
theorem yxx{ds:List D}(h:∀ d∈ds,purA d=true):purR (pack ds)=true:=by
 match ds with
 |[]=>rfl
 |[d]=>
  have:=h d (by simp)
  simp only[pack]
  cases d with
  |tup l=>simp[purA,D.pure1]at this
  |_=>exact this
 |x::y::l=>
  simp only[pack,purR,List.all_eq_true]
  exact h
theorem ypz{fn:Func}{R:Ending→World→Prop}(hb0:base≤w0.heap.size){s:PS}{a:Act}{g:Ghost}:∀ (ds:List Deferred) (w:World),Go1 base w0 g0 st0 w g s.st→FR w g s.st s.fr a→DfOK w0 w ds→
  (∀ w',Go1 base w0 g0 st0 w' g s.st→FR w' g s.st s.fr a→∃ v,(results fn a.tmps).run P w'=.ok v w'∧R (.returned v) w')→LeavesInM Fence.wide 0 P fn a.tmps R ds .returning w
 |[],w,hgo,hF,_,h=>h w hgo hF
 |d::ds,w,hgo,hF,⟨⟨D,h1,h2,h3,h4⟩,h5⟩,h=>by
  subst h1
  refine⟨by simp,.inl ⟨D,_,rfl,run_takeDeferred h2,?_⟩⟩
  have hDw:w0.heap.size≤D:=by
   rcases Nat.lt_or_ge D w0.heap.size with e | e
   ·rw[Array.getElem?_eq_getElem e]at h3; cases h3
   ·exact e
  have hX:=GoX.put (o':=.deferred none) hgo.sr h2 rfl ⟨_,rfl⟩ (Nat.le_trans hb0 hDw)
  refine ypz hb0 ds _ (((hgo.x D).trans hX).fin (fun o ho=>by rw[h3]at ho; cases ho)) (hF.mono hX.im hX.evo) ?_ h
  have:∀ (l:List Deferred),(∀ d'∈l,d'≠{target:=.collected D,args:=#[]})→DfOK w0 w l→DfOK w0 (w.putObj D (.deferred none)) l:=by
   intro l
   induction l with
   |nil=>exact fun _ _=>trivial
   |cons d l ih=>
    rintro hne ⟨⟨D',e1,e2,e3,e4⟩,e5⟩
    refine⟨⟨D',e1,?_,e3,e4⟩,ih (fun d' hd'=>hne d' (by simp[hd'])) e5⟩
    rw[World.putObj_heap_other]
    ·exact e2
    ·rintro rfl
     exact hne d (by simp) e1
  exact this ds h4 h5
theorem yF7(hT:TblOK P G T){f:Nat}{hints:List (List Nat)}{F:PF}(ht:trF P il f hints=some F)(fuel:Nat):(∃ fn,P.funcs[f]?=some fn∧fn.body.isSome=true∧(fn.name == "runtime.NumGoroutine")=false)∧
  ∀ (base:Nat) (w:World) (g:Ghost) (st st':St) (ds:List D) (vs:List Value) (d:D),YOK P G T.y base w g st→F.runI G T fuel ds st=some (d,st')→SR base w g st→GlobOK G w g→ds.length=vs.length→
   (∀ (i:Nat) d v,ds[i]?=some d→vs[i]?=some v→RepV w g st d v)→Calls P f vs.toArray w fun e w'=>∃ v g',e=.returned v∧Go1 base w g st w' g' st'∧RepV w' g' st' d v:=by
 unfold trF at ht
 split at ht
 case h_2=>cases ht
 rename_i fn hfn
 split at ht
 case h_2=>cases ht
 rename_i c hc
 split at ht
 case h_2=>cases ht
 rename_i pc hrest res htc htr
 split at ht
 ·cases ht
 rename_i hname
 simp only[Ywh]at ht; subst ht
 refine⟨⟨fn,hfn,by rw[hc]; rfl,by simpa using hname⟩,?_⟩
 intro base w g st st' ds vs d hY hsp hS hG hlen hrep
 have key:∀ (e:Ex) (s':PS),pc.exec G T fuel {fr:=argF ds,st}=some (e,s')→((raws s' res).map fun l=>(pack l,s'.st))=some (d,st')→(e=.next∨e=.ret)→
   Calls P f vs.toArray w fun e w'=>∃ v g',e=.returned v∧Go1 base w g st w' g' st'∧RepV w' g' st' d v:=by
  intro e s' hex hget he
  refine callsIn_wide.1 (callsIn_of_wp_marks (F:=Fence.wide) (n:=0) hfn hc trivial ?_)
  have hR0:R G base fn.ntmps w g st [] {fr:=argF ds,st} {tmps:=vs.toArray++Array.replicate (fn.ntmps - vs.toArray.size) undef,defers:=[]} w:=by
   refine⟨g,Go1.refl hS,?_,hG,⟨[],rfl,trivial⟩,?_⟩
   ·intro s
    simp only[argF]
    rcases Nat.lt_or_ge s ds.length with h1 | h1
    ·have h2:s<vs.length:=by omega
     have h3:(vs.toArray++Array.replicate (fn.ntmps - vs.toArray.size) undef).getD s undef=vs[s]:=by
      simp[Array.getD,h2]
      intro h4
      omega
     rw[h3]
     have:=hrep s ds[s] vs[s] (by simp[h1]) (by simp[h2])
     simpa[List.getD_eq_getElem?_getD,h1]using this
    ·simp[List.getD_eq_getElem?_getD,List.getElem?_eq_none h1]
     exact .junk _
   ·simp; omega
  have fin:∀ a' w',R G base fn.ntmps w g st [] s' a' w'→LeavesInM Fence.wide 0 P fn a'.tmps (fun e w'=>∃ v g',e=.returned v∧Go1 base w g st w' g' st'∧RepV w' g' st' d v) a'.defers .returning w':=by
   rintro a' w' ⟨g1,h⟩
   obtain⟨dd,hd1,hd2⟩:=h.df
   rw[hd1,List.append_nil]
   refine ypz hS.size dd w' h.go1 h.fr hd2 fun w2 hgo hF=>?_
   simp only[Ywi,Ywj]at hget
   obtain⟨xs,hx1,rfl,rfl⟩:=hget
   obtain⟨us,e1,e2,e3⟩:=yqy hgo.sr hF htr hx1
   exact⟨_,ynp e3,_,g1,rfl,hgo,yuj e1 e2⟩
  refine yjq hT c none (.inl rfl) w g st [] hY hS.size hints (pc,hrest) htc fuel _ s' e hex _ w _ hR0 ?_
  intro a' w' hR'
  rcases he with rfl | rfl
  ·exact fin a' w' hR'
  ·exact fin a' w' hR'
 simp only[PF.runI]at hsp
 split at hsp
 ·rename_i s' hs'; exact key _ s' hs' hsp (.inl rfl)
 ·rename_i s' hs'; exact key _ s' hs' hsp (.inr rfl)
 ·cases hsp
theorem ypy{fn:Func}{R:Ending→World→Prop}{ch:List PanicEntry}(hb0:base≤w0.heap.size){s:PS}{a:Act}{g:Ghost}(rest:List Deferred):∀ (ds:List Deferred) (w:World),Go1 base w0 g0 st0 w g s.st→FR w g s.st s.fr a→DfOK w0 w ds→
  (∀ w',Go1 base w0 g0 st0 w' g s.st→FR w' g s.st s.fr a→LeavesInM Fence.wide 0 P fn a.tmps R rest (.panicking ch) w')→LeavesInM Fence.wide 0 P fn a.tmps R (ds++rest) (.panicking ch) w
 |[],w,hgo,hF,_,h=>h w hgo hF
 |d::ds,w,hgo,hF,⟨⟨D,h1,h2,h3,h4⟩,h5⟩,h=>by
  subst h1
  refine⟨by simp,.inl ⟨D,_,rfl,run_takeDeferred h2,?_⟩⟩
  have hDw:w0.heap.size≤D:=by
   rcases Nat.lt_or_ge D w0.heap.size with e | e
   ·rw[Array.getElem?_eq_getElem e]at h3; cases h3
   ·exact e
  have hX:=GoX.put (o':=.deferred none) hgo.sr h2 rfl ⟨_,rfl⟩ (Nat.le_trans hb0 hDw)
  refine ypy hb0 rest ds _ (((hgo.x D).trans hX).fin (fun o ho=>by rw[h3]at ho; cases ho)) (hF.mono hX.im hX.evo) ?_ h
  have:∀ (l:List Deferred),(∀ d'∈l,d'≠{target:=.collected D,args:=#[]})→DfOK w0 w l→DfOK w0 (w.putObj D (.deferred none)) l:=by
   intro l
   induction l with
   |nil=>exact fun _ _=>trivial
   |cons d l ih=>
    rintro hne ⟨⟨D',e1,e2,e3,e4⟩,e5⟩
    refine⟨⟨D',e1,?_,e3,e4⟩,ih (fun d' hd'=>hne d' (by simp[hd'])) e5⟩
    rw[World.putObj_heap_other]
    ·exact e2
    ·rintro rfl
     exact hne d (by simp) e1
  exact this ds h4 h5
theorem yCp{fn:Func}{R:Ending→World→Prop}(hb0:base≤w0.heap.size){s:PS}{a:Act}{g:Ghost}(rest:List Deferred):∀ (ds:List Deferred) (w:World),Go1 base w0 g0 st0 w g s.st→FR w g s.st s.fr a→DfOK w0 w ds→
  (∀ w',Go1 base w0 g0 st0 w' g s.st→FR w' g s.st s.fr a→LeavesInM Fence.wide 0 P fn a.tmps R rest .returning w')→LeavesInM Fence.wide 0 P fn a.tmps R (ds++rest) .returning w
 |[],w,hgo,hF,_,h=>h w hgo hF
 |d::ds,w,hgo,hF,⟨⟨D,h1,h2,h3,h4⟩,h5⟩,h=>by
  subst h1
  refine⟨by simp,.inl ⟨D,_,rfl,run_takeDeferred h2,?_⟩⟩
  have hDw:w0.heap.size≤D:=by
   rcases Nat.lt_or_ge D w0.heap.size with e | e
   ·rw[Array.getElem?_eq_getElem e]at h3; cases h3
   ·exact e
  have hX:=GoX.put (o':=.deferred none) hgo.sr h2 rfl ⟨_,rfl⟩ (Nat.le_trans hb0 hDw)
  refine yCp hb0 rest ds _ (((hgo.x D).trans hX).fin (fun o ho=>by rw[h3]at ho; cases ho)) (hF.mono hX.im hX.evo) ?_ h
  have:∀ (l:List Deferred),(∀ d'∈l,d'≠{target:=.collected D,args:=#[]})→DfOK w0 w l→DfOK w0 (w.putObj D (.deferred none)) l:=by
   intro l
   induction l with
   |nil=>exact fun _ _=>trivial
   |cons d l ih=>
    rintro hne ⟨⟨D',e1,e2,e3,e4⟩,e5⟩
    refine⟨⟨D',e1,?_,e3,e4⟩,ih (fun d' hd'=>hne d' (by simp[hd'])) e5⟩
    rw[World.putObj_heap_other]
    ·exact e2
    ·rintro rfl
     exact hne d (by simp) e1
  exact this ds h4 h5
theorem yVk{fn:Func}{w:World}{g:Ghost}{st:St}{ds:List D}{vs:List Value}(hS:SR base w g st)(hG:GlobOK G w g)(hlen:ds.length=vs.length)(hrep:∀ (i:Nat) d v,ds[i]?=some d→vs[i]?=some v→RepV w g st d v) :
  R G base fn.ntmps w g st [] {fr:=argF ds,st} {tmps:=vs.toArray++Array.replicate (fn.ntmps - vs.toArray.size) undef,defers:=[]} w:=by
 refine⟨g,Go1.refl hS,?_,hG,⟨[],rfl,trivial⟩,?_⟩
 ·intro s
  simp only[argF]
  rcases Nat.lt_or_ge s ds.length with h1 | h1
  ·have h2:s<vs.length:=by omega
   have h3:(vs.toArray++Array.replicate (fn.ntmps - vs.toArray.size) undef).getD s undef=vs[s]:=by
    simp[Array.getD,h2]
    intro h4
    omega
   rw[h3]
   have:=hrep s ds[s] vs[s] (by simp[h1]) (by simp[h2])
   simpa[List.getD_eq_getElem?_getD,h1]using this
  ·simp[List.getD_eq_getElem?_getD,List.getElem?_eq_none h1]
   exact .junk _
 ·simp; omega
theorem yPx(hT:TblOK P G T)(hy:T.y=fun _ _ _=>none){f:Nat}{hints:List (List Nat)}{F:PF}(ht:trF P il f hints=some F)(fuel:Nat):yh6 P G f (F.runX G T fuel):=by
 refine⟨(yF7 hT ht fuel).1,?_⟩
 unfold trF at ht
 split at ht
 case h_2=>cases ht
 rename_i fn hfn
 split at ht
 case h_2=>cases ht
 rename_i c hc
 split at ht
 case h_2=>cases ht
 rename_i pc hrest res htc htr
 split at ht
 ·cases ht
 rename_i hname
 simp only[Ywh]at ht; subst ht
 intro base w g st st' ds vs t d hsp hS hG hlen hrep
 simp only[PF.runX]at hsp
 split at hsp
 case h_2=>cases hsp
 rename_i t1 d1 s' hex
 simp only[Ywh,Ywj]at hsp
 obtain⟨rfl,rfl,rfl⟩:=hsp
 refine callsIn_wide.1 (callsIn_of_wp_marks (F:=Fence.wide) (n:=0) hfn hc trivial ?_)
 refine yjq hT c none (.inl rfl) w g st [] (by rw[hy]; exact YOK.none) hS.size hints (pc,hrest) htc fuel _ s' _ hex _ w _ (yVk hS hG hlen hrep) ?_
 rintro a' w' ⟨g1,h⟩
 obtain⟨dd,hd1,hd2⟩:=h.df
 show LeavesInM Fence.wide 0 P fn a'.tmps _ a'.defers (.panicking (yh4 t1 d1)) w'
 rw[hd1]
 refine ypy hS.size [] dd w' h.go1 h.fr hd2 fun w2 hgo hF=>?_
 exact⟨g1,rfl,hgo⟩
def trFD(P:Program)(il:List Nat)(f:Nat)(hints:List (List Nat)):Option PFD:=
 match P.funcs[f]? with
 |some fn=>match fn.body with
  |some (.seq (.region _ ops0 false) (.seq (.region _ ops1 false) rest))=>match ops1.toList.reverse with
   |o::rpre=>match ysb P il fn.ntmps ops0 ops0.toList,ysb P il fn.ntmps ops1 rpre.reverse,trC P il fn.ntmps hints rest,yD5 P fn.results.toList with
    |some pre,some pre1,some (pc,_),some res=>match o.op,o.guard,o.dst with
     |.defer c,none,none=>match c.callee with
      |.value x=>match trA x,trAs c.args.toList with
       |some hf,some ha=>if fn.name == "runtime.NumGoroutine" then none else some {pre:=pre++pre1,hf,ha,code:=pc,res}
       |_,_=>none
      |_=>none
     |_,_,_=>none
    |_,_,_,_=>none
   |[]=>none
  |_=>none
 |none=>none
theorem yp5{G:Glob}{T:Tbl}:∀ (l l':List PI) (s:PS),ycg G T (l++l') s=(ycg G T l s).bind fun s'=>ycg G T l' s'
 |[],_,_=>rfl
 |i::l,l',s=>by
  simp only[List.cons_append,ycg]
  cases i.exec G T s with
  |none=>rfl
  |some s'=>exact yp5 l l' s'
theorem Ygz(hT:TblOK P G T)(hy:T.y=fun _ _ _=>none){f:Nat}{hints:List (List Nat)}{F:PFD}(ht:trFD P il f hints=some F){H:HTbl}(hH:∀ f h,H f=some h→yqk P G f h)(fuel:Nat):IContract P G f (F.runI G T H fuel):=by
 unfold trFD at ht
 split at ht
 case h_2=>cases ht
 rename_i fn hfn
 split at ht
 case h_2=>cases ht
 rename_i id0 ops0 id1 ops1 rest hc
 split at ht
 case h_2=>cases ht
 rename_i o rpre hops1
 split at ht
 case h_2=>cases ht
 rename_i pre pre1 pc hrest res hpre hpre1 htc htr
 split at ht
 case h_2=>cases ht
 rename_i c hop hgd hds
 split at ht
 case h_2=>cases ht
 rename_i x hcal
 split at ht
 case h_2=>cases ht
 rename_i hf ha hhf hha
 split at ht
 ·cases ht
 rename_i hname
 simp only[Ywh]at ht; subst ht
 refine⟨⟨fn,hfn,by rw[hc]; rfl,by simpa using hname⟩,?_⟩
 intro base w g st st' ds vs d hsp hS hG hlen hrep
 simp only[PFD.runI]at hsp
 split at hsp
 case h_2=>cases hsp
 rename_i s1 hs1
 split at hsp
 case h_2=>cases hsp
 rename_i hfn' das hput
 split at hsp
 case h_2=>cases hsp
 rename_i h hHf
 rw[yp5,Option.bind_eq_some_iff]at hs1
 obtain⟨s0,hs0,hs1⟩:=hs1
 refine callsIn_wide.1 (callsIn_of_wp_marks (F:=Fence.wide) (n:=0) hfn hc trivial ?_)
 refine wpIn_seq (wpIn_region_list (yzx (r:=none) hT (by rw[hy]; exact YOK.none) _ _ _ s0 _ w hpre hs0 (yVk hS hG hlen hrep) ?_))
 intro a0 w0 hR0
 show Code.wpIn _ _ _ _ _ _ _
 refine wpIn_seq (wpIn_region_list ?_)
 have hl:ops1.toList=rpre.reverse++[o]:=by
  have:=congrArg List.reverse hops1
  simpa using this
 rw[hl]
 refine ymp (r:=none) hT (by rw[hy]; exact YOK.none) _ _ _ _ _ _ hpre1 hs1 hR0 ?_
 rintro a1 w1 ⟨g1,h1⟩
 obtain⟨dst,op,ty,pos,after,guard⟩:=o
 simp only at hop hgd hds
 subst hop; subst hgd; subst hds
 obtain⟨dd,hd1,hd2⟩:=h1.df
 rw[List.append_nil]at hd1
 have hev:∀ x pa,trA x=some pa→RepV w1 g1 s1.st (rho G s1.fr pa) (a1.eval x):=fun x pa h=>ybf (G:=G) h1.gl h1.fr h
 have hxv:=hev _ _ hhf
 obtain⟨q1,q2⟩:=yir hev hha
 have q1:(ha.map (rho G s1.fr)).length=(c.args.toList.map a1.eval).length:=by simpa using q1
 unfold yud at hput
 split at hput
 case h_2=>cases hput
 rename_i hf' caps hclo
 split at hput
 case isFalse=>cases hput
 rename_i hlt
 simp only[Ywh,Ywj]at hput
 obtain⟨rfl,rfl⟩:=hput
 rw[hclo]at hxv
 generalize hxe:a1.eval x=xv at hxv
 obtain⟨us,hul,hur,rfl⟩:∃ us:List Value,caps.length=us.length∧(∀ (i:Nat) d v,caps[i]?=some d→us[i]?=some v→RepV w1 g1 s1.st d v)∧xv=.func (.func hf') #[] us.toArray:=by
  cases hxv with
  |clo _ _ us e1 e2=>exact⟨us,e1,e2,by rw[yv8 hlt,yq9 hlt,yu3 hlt]⟩
 have hargs:c.args.map a1.eval=(c.args.toList.map a1.eval).toArray:=by
  apply Array.ext'
  simp
 generalize hav:c.args.toList.map a1.eval=av at q1 q2 hargs
 have hdef:(Oper.semAt (Wr none).round a1.eval {dst:=none,op:=.defer c,type:=ty,pos:=pos,after:=after,guard:=none}).run P w1=.ok (.defer {target:=.fn (.func hf') us.toArray,args:=av.toArray}) w1:=by
  show(execOp a1.eval {dst:=none,op:=.defer c,type:=ty,pos:=pos,after:=after,guard:=none}).run P w1=_
  simp only[execOp,resolve,hcal,hargs,hxe,Deferred.ofValue,Array.empty_append]
  rfl
 have hw1:Region.wanted ({dst:=none,op:=.defer c,type:=ty,pos:=pos,after:=after,guard:=none}:Oper) (yielded ops1 a1.tmps)=true:=by simp[Region.wanted]
 simp only[wpListIn,hw1,if_true]
 refine⟨fun _ _=>trivial,?_⟩
 rw[hdef,Oper.uponIn_defer]
 show Code.wpIn _ _ _ _ _ _ _
 have hR1:R G base fn.ntmps w1 g1 s1.st ({target:=.fn (.func hf') us.toArray,args:=av.toArray}::dd) s1 ({a1 with defers:={target:=.fn (.func hf') us.toArray,args:=av.toArray}::a1.defers}.put none undef) w1:=by
  refine⟨g1,Go1.refl h1.sr,h1.fr,h1.gl,⟨[],?_,trivial⟩,h1.sz⟩
  simp[Act.put,hd1]
 obtain⟨⟨hfn',hhf,hhb,hhn⟩,hcon⟩:=hH _ _ hHf
 have hinv:∀ w2,(invoke (.fn (.func hf') us.toArray) av.toArray).run P w2=.ok (.enter hf' (av++us).toArray) w2:=by
  intro w2
  have hbn:¬ hfn'.body=none:=by
   intro e; rw[e]at hhb; cases hhb
  have hn':¬ hfn'.name= "runtime.NumGoroutine":=by simpa using hhn
  simp[invoke,callFunc,hhf,hn',hbn]
 have hdl:(ha.map (rho G s1.fr)++caps).length=(av++us).length:=by simp only[List.length_append,q1,hul]
 have hdr:=yvx q1 q2 hur
 have hrt:=h1.go1.sr.size
 have fin:∀ (s3:PS) (a':Act) (w3:World) (g3:Ghost),(raws s3 res).map (fun l=>(pack l,s3.st))=some (d,st')→FR w3 g3 s3.st s3.fr a'→Go1 base w g st w3 g3 s3.st→DfOK w w3 dd→
   LeavesInM Fence.wide 0 P fn a'.tmps (fun e w'=>∃ v g',e=.returned v∧Go1 base w g st w' g' st'∧RepV w' g' st' d v) dd .returning w3:=by
  intro s3 a' w3 g3 hget hF hgo hdf
  have:=ypz (P:=P) (fn:=fn) (R:=fun e w'=>∃ v g',e=.returned v∧Go1 base w g st w' g' st'∧RepV w' g' st' d v) hS.size dd w3 hgo hF hdf (fun w4 hgo4 hF4=>by
   simp only[Ywi,Ywj]at hget
   obtain⟨xs,hx1,rfl,rfl⟩:=hget
   obtain⟨us,e1,e2,e3⟩:=yqy hgo4.sr hF4 htr hx1
   exact⟨_,ynp e3,_,g3,rfl,hgo4,yuj e1 e2⟩)
  exact this
 have done:∀ (e:Ex) (s':PS),pc.exec G T fuel s1=some (e,s')→(e=.next∨e=.ret)→(raws s' res).map (fun l=>(pack l,s'.st))=some (d,st')→
   ∀ a' w',R G base fn.ntmps w1 g1 s1.st ({target:=.fn (.func hf') us.toArray,args:=av.toArray}::dd) s' a' w'→LeavesInM Fence.wide 0 P fn a'.tmps (fun e w'=>∃ v g',e=.returned v∧Go1 base w g st w' g' st'∧RepV w' g' st' d v) a'.defers .returning w':=by
  rintro e s' hex he hget a' w' ⟨g2,h⟩
  obtain⟨d2,hd3,hd4⟩:=h.df
  rw[hd3]
  refine yCp hrt _ d2 w' h.go1 h.fr hd4 fun w2 hgo hF=>?_
  refine⟨by simp,.inr ⟨(by intro e; cases e),.func hf',us.toArray,hf',(av++us).toArray,rfl,hinv w2,fun _ _=>trivial,?_⟩⟩
  have hG2:GlobOK G w2 g2:=h1.gl.mono hgo.im
  refine((hcon base w2 g2 s'.st _ _ hgo.sr hG2 hdl (fun i d v h1 h2=>hgo.rep (hdr i d v h1 h2))).1).mono ?_
  rintro e u w3 ⟨rfl,rfl,g3,hgo3⟩
  exact fin s' a' w3 g3 hget (hF.mono hgo3.im hgo3.evo) (h1.go1.trans (hgo.trans hgo3)) ((hd2.mono hgo.kp).mono hgo3.kp)
 split at hsp
 ·rename_i s' hex
  refine yjq hT rest none (.inl rfl) w1 g1 s1.st _ (by rw[hy]; exact YOK.none) hrt hints (pc,_) htc fuel _ s' _ hex _ w1 _ hR1 fun a' w' hR'=>?_
  exact done _ s' hex (.inl rfl) hsp a' w' hR'
 ·rename_i s' hex
  refine yjq hT rest none (.inl rfl) w1 g1 s1.st _ (by rw[hy]; exact YOK.none) hrt hints (pc,_) htc fuel _ s' _ hex _ w1 _ hR1 fun a' w' hR'=>?_
  exact done _ s' hex (.inr rfl) hsp a' w' hR'
 ·rename_i t d2 s' hex
  split at hsp
  case h_2=>cases hsp
  rename_i st3 hst3
  refine yjq hT rest none (.inl rfl) w1 g1 s1.st _ (by rw[hy]; exact YOK.none) hrt hints (pc,_) htc fuel _ s' _ hex _ w1 _ hR1 ?_
  rintro a' w' ⟨g2,h⟩
  obtain⟨d3,hd3,hd4⟩:=h.df
  show LeavesInM Fence.wide 0 P fn a'.tmps _ a'.defers (.panicking (yh4 t d2)) w'
  rw[hd3]
  refine ypy hrt _ d3 w' h.go1 h.fr hd4 fun w2 hgo hF=>?_
  refine⟨by simp,.inr ⟨(by intro e; cases e),.func hf',us.toArray,hf',(av++us).toArray,rfl,hinv w2,fun _ _=>trivial,?_⟩⟩
  have hG2:GlobOK G w2 g2:=h1.gl.mono hgo.im
  refine((hcon base w2 g2 s'.st _ _ hgo.sr hG2 hdl (fun i d v h1 h2=>hgo.rep (hdr i d v h1 h2))).2 t d2 st3 hst3).mono ?_
  rintro e u w3 ⟨rfl,rfl,g3,hgo3⟩
  exact fin ⟨s'.fr,st3⟩ a' w3 g3 hsp (hF.mono hgo3.im hgo3.evo) (h1.go1.trans (hgo.trans hgo3)) ((hd2.mono hgo.kp).mono hgo3.kp)
 ·cases hsp
theorem yx4(hT:TblOK P G T)(hy:T.y=fun _ _ _=>none){f:Nat}{hints:List (List Nat)}{F:PF}(ht:trF P il f hints=some F)(fuel:Nat):IContract P G f (F.runI G T fuel):=
 ⟨(yF7 hT ht fuel).1,fun base w g st st' ds vs d hsp hS hG hl hr=>(yF7 hT ht fuel).2 base w g st st' ds vs d (by rw[hy]; exact YOK.none) hsp hS hG hl hr⟩
theorem Yfn{w:World}{g:Ghost}{st:St}{k:Nat}{d:D}{v:Value}(h:RepV w g st d v):RepV w g (PI.cut k st) (lowR k d) v:=by
 cases d with
 |tup l=>
  cases h with
  |tup _ vs h1 h2=>
   refine .tup _ vs (by simpa using h1) fun i d v hd hv=>?_
   simp only[List.getElem?_map,Ywi]at hd
   obtain⟨d0,h3,rfl⟩:=hd
   exact yMk (h2 i d0 v h3 hv)
 |_=>exact yMk h
theorem IContract.dropped{f:Nat}{sp:List D→St→Option (D×St)}(h:IContract P G f sp):IContract P G f (PI.dropped sp):=by
 refine⟨h.1,fun base w g st st' ds vs d hd hS hG hl hr=>?_⟩
 simp only[PI.dropped,Ywi,Ywj,Prod.exists]at hd
 obtain⟨d0,st1,h1,rfl,rfl⟩:=hd
 refine(h.2 base w g st st1 ds vs d0 h1 hS hG hl hr).mono ?_
 rintro e w' ⟨v,g',rfl,h2,h3⟩
 exact⟨v,g',rfl,h2.cut (Nat.le_refl _),Yfn h3⟩
theorem Yom(hT:TblOK P G T)(hy:T.y=fun _ _ _=>none){f:Nat}{hints:List (List Nat)}{F:PF}(ht:trF P il f hints=some F)(fuel:Nat):Contract P G f (F.run G T fuel):=by
 intro w g ds vs d hsp hG hIm hlen hrep _
 unfold trF at ht
 split at ht
 case h_2=>cases ht
 rename_i fn hfn
 split at ht
 case h_2=>cases ht
 rename_i c hc
 split at ht
 case h_2=>cases ht
 rename_i pc hrest res htc htr
 split at ht
 ·cases ht
 simp only[Ywh]at ht; subst ht
 have hS:SR w.heap.size w g []:=⟨fun k o h=>by simp at h,fun k o h=>by simp at h,fun k k' o o' h=>by simp at h,hIm,fun k o x h=>by simp at h,Nat.le_refl _⟩
 have key:∀ (e:Ex) (s':PS),pc.exec G T fuel {fr:=argF ds,st:=[]}=some (e,s')→(gets s' res).map pack=some d→(e=.next∨e=.ret)→
   Calls P f vs.toArray w fun e w'=>∃ v g',e=.returned v∧RepV w' g' [] d v∧purR d=true∧ImLe w g w' g'∧(∀ b o,g'.Im b o→g.Im b o∨w.heap.size≤b)∧
   (∀ b o,g'.Im b o→(w'.cell? ⟨b,o,none⟩).isSome=true)∧Below w.heap.size w w':=by
  intro e s' hex hget he
  refine callsIn_wide.1 (callsIn_of_wp_marks (F:=Fence.wide) (n:=0) hfn hc trivial ?_)
  have hR0:R G w.heap.size fn.ntmps w g [] [] {fr:=argF ds,st:=[]} {tmps:=vs.toArray++Array.replicate (fn.ntmps - vs.toArray.size) undef,defers:=[]} w:=by
   refine⟨g,Go1.refl hS,?_,hG,⟨[],rfl,trivial⟩,?_⟩
   ·intro s
    simp only[argF]
    rcases Nat.lt_or_ge s ds.length with h1 | h1
    ·have h2:s<vs.length:=by omega
     have h3:(vs.toArray++Array.replicate (fn.ntmps - vs.toArray.size) undef).getD s undef=vs[s]:=by
      simp[Array.getD,h2]
      intro h4
      omega
     rw[h3]
     have:=hrep s ds[s] vs[s] (by simp[h1]) (by simp[h2])
     simpa[List.getD_eq_getElem?_getD,h1]using this
    ·simp[List.getD_eq_getElem?_getD,List.getElem?_eq_none h1]
     exact .junk _
   ·simp; omega
  have fin:∀ a' w',R G w.heap.size fn.ntmps w g [] [] s' a' w'→LeavesInM Fence.wide 0 P fn a'.tmps (fun e w'=>∃ v g',e=.returned v∧RepV w' g' [] d v∧purR d=true∧ImLe w g w' g'∧(∀ b o,g'.Im b o→g.Im b o∨w.heap.size≤b)∧
   (∀ b o,g'.Im b o→(w'.cell? ⟨b,o,none⟩).isSome=true)∧Below w.heap.size w w') a'.defers .returning w':=by
   rintro a' w' ⟨g1,h⟩
   obtain⟨dd,hd1,hd2⟩:=h.df
   rw[hd1,List.append_nil]
   refine ypz (Nat.le_refl _) dd w' h.go1 h.fr hd2 fun w2 hgo1 hF=>?_
   simp only[Ywi]at hget
   obtain⟨ys,hys,rfl⟩:=hget
   obtain⟨xs,hx1,hx2⟩:=yAg hys
   obtain⟨us,e1,e2,e3⟩:=yqy hgo1.sr hF htr hx1
   obtain⟨g2,hgo,_,e5,e6,e7⟩:=ymq hgo1.sr hx2
   have hall:=hgo1.trans hgo
   refine⟨_,ynp e3,_,g2,rfl,?_,yxx e6,hall.im,hall.new,hall.sr.im,hall.below⟩
   have h8:=yuj (g:=g2) (w:=w2) (ds:=ys) (vs:=us) (by omega) fun i y v hy hv=>e7 i y v hy fun x hx=>e2 i x v hx hv
   exact h8.purR (ImLe.refl _ _) (yxx e6)
  refine yjq hT c none (.inl rfl) w g [] [] (by rw[hy]; exact YOK.none) (Nat.le_refl _) hints (pc,hrest) htc fuel _ s' e hex _ w _ hR0 ?_
  intro a' w' hR'
  rcases he with rfl | rfl
  ·exact fin a' w' hR'
  ·exact fin a' w' hR'
 simp only[PF.run]at hsp
 split at hsp
 ·rename_i s' hs'; exact key _ s' hs' hsp (.inl rfl)
 ·rename_i s' hs'; exact key _ s' hs' hsp (.inr rfl)
 ·cases hsp
theorem yPw(hT:TblOK P G T)(hy:T.y=fun _ _ _=>none){f:Nat}{hints:List (List Nat)}{F:PF}(ht:trF P il f hints=some F){sp:List D→Option D}(h:∀ ds d,sp ds=some d→∃ fuel,F.run G T fuel ds=some d):Contract P G f sp:=by
 intro w g ds vs d hd
 obtain⟨fuel,hf⟩:=h ds d hd
 exact Yom hT hy ht fuel w g ds vs d hf
end
end Go.Proofs.YtijnglngaogdjaaGreatDoor.PI
