/-
  The translation of the model's operations into pure ones, and that it is sound.
  Conditions: none; these are definitions and lemmas.
-/
import Derived.Test.YtijnglngaogdjaaGreatDoorEngH
import Derived.Great.BuildSlice
import Derived.ChangeKeysEq
import Derived.MapKept
import Derived.Laws.CopyRow
import Derived.Laws.IdiomCopy
import Derived.DefersIn
set_option linter.unusedVariables false
set_option linter.unusedSimpArgs false
namespace Go.Proofs.YtijnglngaogdjaaGreatDoor.PI
open Go Go.RowKit
section
variable {P:Program} {base:Nat} {w:World} {g:Ghost} {st:St}
theorem ye7{d:D}(h:d.isCell=true):d.cells=[d]:=by
 cases d <;> simp_all [D.isCell,D.cells]
theorem Yau{v:Value}(h:v.oneCell'=true):v.cells=#[v]:=by
 cases v <;> simp_all [Value.oneCell',Value.cells]
theorem ykh{d:D}{v:Value}(hc:d.cells.all D.isCell=true)(hr:RepV w g st d v) :
  v.cells.size=d.cells.length∧(∀ (j:Nat) x,d.cells[j]?=some x→∃ u,v.cells[j]?=some u∧RepV w g st x u)∧v.cells.toList.all (·.oneCell')=true:=by
 have single:d.cells=[d]→d.isCell=true→v.cells.size=d.cells.length∧(∀ (j:Nat) x,d.cells[j]?=some x→∃ u,v.cells[j]?=some u∧RepV w g st x u)∧v.cells.toList.all (·.oneCell')=true:=by
  intro h1 h2
  have h3:=Yau (hr.oneCell h2)
  rw[h1,h3]
  refine⟨rfl,fun j x hx=>?_,by simpa using hr.oneCell h2⟩
  cases j with
  |zero=>simp at hx; subst hx; exact⟨v,rfl,hr⟩
  |succ j=>simp at hx
 cases d with
 |agg l=>
  cases hr with
  |agg _ vs h1 h2=>
   simp only[D.cells]at hc
   refine⟨by simp[Value.cells,D.cells,h1],fun j x hx=>?_,?_⟩
   ·simp only[D.cells]at hx
    have hj:j<vs.length:=by rw[← h1]; exact(List.getElem?_eq_some_iff.1 hx).1
    exact⟨vs[j],by simp[Value.cells,hj],h2 j x _ hx (List.getElem?_eq_getElem hj)⟩
   ·simp only[Value.cells,List.all_eq_true]
    intro u hu
    obtain⟨j,hj⟩:=List.mem_iff_getElem?.1 hu
    have hjl:j<l.length:=by rw[h1]; exact(List.getElem?_eq_some_iff.1 hj).1
    exact(h2 j _ u (List.getElem?_eq_getElem hjl) hj).oneCell (List.all_eq_true.1 hc _ (List.getElem_mem hjl))
 |tup l=>simp[D.cells,D.isCell]at hc
 |junk=>simp[D.cells,D.isCell]at hc
 |_=>exact single rfl rfl
theorem yKo(w:World)(o:Go.Obj):Beside w {w with heap:=w.heap.push o}:=⟨rfl,rfl,rfl,by simp⟩
theorem ynr(w:World)(o:Go.Obj)(b:Nat)(h:b<w.heap.size):(w.heap.push o)[b]?=w.heap[b]?:=by
 rw[Array.getElem?_push,if_neg (by omega)]
theorem Yb3(hS:SR base w g st){t:TypeId}{d:D}{v:Value}(hc:d.cells.all D.isCell=true)(hr:RepV w g st d v) :
  RunsTo P base w g st (do pure (.pointer (some (← newVar t v)))) (.ptr st.length 0) (st++[{row:=false,sz:=1,els:=d.cells,lent:=false}]):=by
 obtain⟨h1,h2,_⟩:=ykh hc hr
 have hall:∀ x∈d.cells,x.cells=[x]:=fun x hx=>ye7 (List.all_eq_true.1 hc x hx)
 have hgo:=SR.push (o:={row:=false,sz:=1,els:=d.cells,lent:=false}) (c:=0) (C:=v.cells) (e:=t) (w':={w with heap:=w.heap.push (.cells v.cells t)}) hS
  (yKo w _) (fun b hb=>ynr w _ b hb) (by simp) rfl Nat.one_pos (fun x hx=>by rw[hall x hx]; rfl) (by simp[h1]; exact hall) (by
   intro i j x hx
   obtain⟨e,he,hd⟩:=yap hx
   have h3:=hall e (List.mem_of_getElem? he)
   rw[h3]at hd
   cases j with
   |zero=>
    simp only[List.getElem?_cons_zero,Ywh]at hd; subst hd
    obtain⟨u,h4,h5⟩:=h2 i e he
    exact⟨(by intro h; cases h),u,by simpa using h4,h5⟩
   |succ j=>simp at hd)
 refine⟨.pointer (some ⟨w.heap.size,0,none⟩),_,_,?_,hgo,?_⟩
 ·simp[newVar,newRow]
 ·have:=RepV.ptr (w:={w with heap:=w.heap.push (.cells v.cells t)}) (g:={g with β:=upd g.β st.length w.heap.size,γ:=upd g.γ st.length 0}) (st:=st++[{row:=false,sz:=1,els:=d.cells,lent:=false}]) st.length 0 {row:=false,sz:=1,els:=d.cells,lent:=false} (by simp) rfl rfl
  simpa[ybn]using this
theorem ygu{l xs:List D}{off:Nat}(h:off+xs.length≤l.length):(ybl l off xs).length=l.length:=by
 simp only[ybl,List.length_append,List.length_take,List.length_drop]; omega
theorem yhu{l xs:List D}{off j:Nat}(h:off+xs.length≤l.length):(ybl l off xs)[j]?=if off≤j∧j<off+xs.length then xs[j - off]? else l[j]?:=by
 unfold ybl
 by_cases h1:j<off
 ·rw[if_neg (by omega),List.append_assoc,List.getElem?_append_left (by rw[List.length_take]; omega),List.getElem?_take,if_pos h1]
 ·by_cases h2:j<off+xs.length
  ·rw[if_pos ⟨by omega,h2⟩,List.getElem?_append_left (by rw[List.length_append,List.length_take]; omega),List.getElem?_append_right (by rw[List.length_take]; omega),List.length_take]
   congr 1; omega
  ·rw[if_neg (by omega),List.getElem?_append_right (by rw[List.length_append,List.length_take]; omega),List.length_append,List.length_take,List.getElem?_drop]
   congr 1; omega
theorem yhr{C:Array Value}{vs:List Value}{off j:Nat}(h:off+vs.length≤C.size) :
  ((C.toList.take off++vs++C.toList.drop (off+vs.length)).toArray)[j]?=if off≤j∧j<off+vs.length then vs[j - off]? else C[j]?:=by
 have hC:C.toList.length=C.size:=Array.length_toList
 rw[List.getElem?_toArray]
 have h0:(C.toList.take off).length=off:=by rw[List.length_take]; omega
 have h3:(C.toList.take off++vs).length=off+vs.length:=by rw[List.length_append,h0]
 by_cases h1:j<off
 ·rw[if_neg (by omega),List.append_assoc,List.getElem?_append_left (by omega),List.getElem?_take,if_pos h1,Array.getElem?_toList]
 ·by_cases h2:j<off+vs.length
  ·rw[if_pos ⟨by omega,h2⟩,List.getElem?_append_left (by omega),List.getElem?_append_right (by omega),h0]
  ·rw[if_neg (by omega),List.getElem?_append_right (by omega),h3,List.getElem?_drop,Array.getElem?_toList]
   congr 1; omega
theorem yio{C:Array Value}{vs:List Value}{off:Nat}(h:off+vs.length≤C.size):((C.toList.take off++vs++C.toList.drop (off+vs.length)).toArray).size=C.size:=by
 simp only[List.size_toArray,List.length_append,List.length_take,List.length_drop,Array.length_toList]; omega
theorem yg8(w:World)(b:Nat)(C:Array Value):Beside w (w.setRow b C):=⟨rfl,rfl,rfl,by simp[World.setRow]⟩
theorem yyy(_hS:SR base w g st){t:TypeId}{n b off:Nat}{C:Array Value}{e:TypeId}{x:D}{vx:Value}(hn:szOf P t=some n)(hb:w.heap[b]?=some (.cells C e (0,0)))(hle:off+n≤C.size)
  (hx:x.cells.length=n) (hc:x.cells.all D.isCell=true) (hr:RepV w g st x vx) :
  (Instr.storeAt t (.pointer (some ⟨b,off,none⟩)) vx).run P w=.ok () (w.setRow b ((C.toList.take off++vx.cells.toList++C.toList.drop (off+vx.cells.toList.length)).toArray)):=by
 obtain⟨h1,_,h3⟩:=ykh hc hr
 have h4:vx.cells.toList.length=n:=by rw[Array.length_toList,h1,hx]
 have h:=run_storeCells_at P b off e vx.cells.toList 0 C w hb (by simpa[h4]using hle) (List.all_eq_true.1 h3)
 simp only[Nat.add_zero]at h
 have h5:vx.cells.size=n:=by rw[h1,hx]
 simp only[Instr.storeAt,Sem.run_bind,Instr.sureAddr,Sem.run_pure,Result.andThen_ok,storeVar,ycz hn,h5,ne_eq,not_true_eq_false,if_false,h]
theorem yLq{el el':D}{off:Nat}{ys:List D}(h:yRg el off ys=some el')(hy:∀ z∈ys,z.cells=[z]):off+ys.length≤el.cells.length∧el'.cells=ybl el.cells off ys:=by
 unfold yRg at h
 split at h
 ·simp only[Option.ite_none_right_eq_some,Ywh]at h
  obtain⟨h1,rfl⟩:=h
  exact⟨h1,rfl⟩
 ·rename_i hne
  split at h
  ·simp only[Ywh]at h; subst h
   have:el.cells=[el]:=by cases el <;> first | rfl | exact absurd rfl (hne _)
   rename_i z
   rw[this]
   exact⟨by simp,by simp[ybl,hy z (by simp)]⟩
  ·cases h
theorem yWv(hS:SR base w g st){t:TypeId}{n:Nat}{p x:D}{vp vx:Value}{st':St}(hn:szOf P t=some n)(h:yxh st n p x=some st')(hrp:RepV w g st p vp)(hrx:RepV w g st x vx) :
  ∃ w' g',(Instr.storeAt t vp vx).run P w=.ok () w'∧Go1 base w g st w' g' st':=by
 unfold yxh at h
 split at h
 ·rename_i key off
  cases hrp with
  |ptr _ _ o ho hrow hone=>
   rw[ho]at h
   simp only[hrow,Bool.not_false,Bool.true_and,Option.ite_none_right_eq_some,Ywh,Bool.and_eq_true,Bool.not_eq_true',decide_eq_true_eq,beq_iff_eq]at h
   obtain⟨⟨⟨⟨hlent,hle⟩,hlen⟩,hall⟩,rfl⟩:=h
   obtain⟨C,e,hb,hbase,hszp,hx,hC,hrep⟩:=hS.blk key o ho (yd6 hone)
   rw[hrow]at hC
   simp only[Bool.false_eq_true,if_false]at hC
   obtain⟨hC1,hC2,hC3⟩:=hC
   obtain⟨h1,h2,h3⟩:=ykh hall hrx
   have h4:vx.cells.toList.length=n:=by rw[Array.length_toList,h1,hlen]
   have hle':off+vx.cells.toList.length≤C.size:=by rw[h4,hC1]; exact hle
   have hle2:off+x.cells.length≤o.els.length:=by rw[hlen]; exact hle
   have hsl:=ygu hle2
   have mem:∀ y∈ybl o.els off x.cells,y.cells=[y]:=by
    intro y hy
    obtain⟨j,hj⟩:=List.mem_iff_getElem?.1 hy
    rw[yhu hle2]at hj
    split at hj
    ·exact ye7 (List.all_eq_true.1 hall y (List.mem_of_getElem? hj))
    ·exact hC3 y (List.mem_of_getElem? hj)
   have hwt:off+n≤C.size:=by rw[hC1]; exact hle
   refine⟨_,{g with β:=upd g.β key (g.β key),γ:=upd g.γ key (g.γ key)},yyy hS hn hb hwt hlen hall hrx,?_⟩
   have eo:(⟨false,o.sz,ybl o.els off x.cells,o.lent⟩:Obj)={o with els:=ybl o.els off x.cells}:=by rw[← hrow]
   rw[eo]
   refine SR.update (o':={o with els:=ybl o.els off x.cells}) (c:=g.γ key) hS ho (yd6 hone) hb (.inl ⟨rfl,rfl⟩) rfl rfl (by simp[hsl]) rfl (fun y hy=>by rw[mem y hy,hC2]; rfl) (yg8 w _ _)
    (fun b' _ hne=>setRow_other w _ _ _ (by omega)) (setRow_heap w _ C _ e _ hb) ?_ ?_ ?_
   ·intro _ y hy
    have:=(hS.dis key o y ho hy).1
    rw[hlent]at this; cases this
   ·rw[hrow]
    simp only[Bool.false_eq_true,if_false]
    exact⟨by rw[yio hle',hC1,hsl],hC2,mem⟩
   ·intro i j d hd
    refine⟨fun h=>by simp[hrow]at h,?_⟩
    obtain⟨y,hy,hdy⟩:=yap hd
    have h5:=mem y (List.mem_of_getElem? hy)
    rw[h5]at hdy
    cases j with
    |succ j=>simp at hdy
    |zero=>
     simp only[List.getElem?_cons_zero,Ywh]at hdy
     subst hdy
     rw[hC2,Nat.mul_one,Nat.add_zero,yhr hle']
     rw[yhu hle2]at hy
     rw[h4]
     rw[hlen]at hy
     split at hy
     ·rename_i hc
      rw[if_pos hc]
      obtain⟨u,h6,h7⟩:=h2 _ _ hy
      exact⟨u,by rw[Array.getElem?_toList]; exact h6,h7⟩
     ·rename_i hc
      rw[if_neg hc]
      have h8:=hC3 y (List.mem_of_getElem? hy)
      obtain⟨_,u,h6,h7⟩:=hrep i 0 y (ya5 hy (by rw[h8]; rfl))
      rw[hC2]at h6
      exact⟨u,by simpa using h6,h7⟩
 ·rename_i key tot i off
  split at h
  ·rename_i o y ho hy
   split at h
   case isFalse=>cases h
   rename_i hcond
   simp only[Bool.and_eq_true,Bool.not_eq_true',beq_iff_eq,List.isEmpty_iff]at hcond
   obtain⟨⟨⟨hrow,hlent⟩,htot⟩,hkeys⟩:=hcond
   split at h
   case h_2=>cases h
   rename_i el hel
   split at h
   case h_2=>cases h
   rename_i el' hel'
   simp only[Option.ite_none_right_eq_some,Ywh]at h
   obtain⟨hlen,rfl⟩:=h
   obtain⟨ob,h1,h2,h3,rfl⟩:=yFl (by simp[live,ho,hrow,htot]) hrp
   obtain rfl:ob=o:=Option.some.inj (h1.symm.trans ho)
   obtain⟨C,e,hb,hbase,hszp,hx,hC,hrep⟩:=hS.blk key ob ho (ycc hrow)
   rw[hrow]at hC
   simp only[if_true]at hC
   obtain⟨hrepy,hpy⟩:=yY5 hS hy hrx (by rw[hkeys]; intro k hk; cases hk)
   have hpc:∀ z∈y.cells,z.pure1=true:=by
    intro z hz
    cases y with
    |agg l=>simp only[purA,List.all_eq_true]at hpy; exact hpy z hz
    |_=>simp only[D.cells,List.mem_singleton]at hz; subst hz; exact hpy
   have hall:y.cells.all D.isCell=true:=List.all_eq_true.2 fun z hz=>yhx (hpc z hz)
   obtain⟨c1,c2,c3⟩:=ykh hall hrepy
   have hil:i<ob.els.length:=(List.getElem?_eq_some_iff.1 hel).1
   have hels:=hx el (List.mem_of_getElem? hel)
   obtain⟨hle2,hcells⟩:=yLq hel' (fun z hz=>yns (hpc z hz))
   have hfit:i*ob.sz+off+n≤C.size:=by
    rw[hC.1]
    calc i*ob.sz+off+n≤i*ob.sz+ob.sz:=by omega
     _=(i+1)*ob.sz:=by rw[Nat.add_mul,Nat.one_mul]
     _≤g.γ key*ob.sz:=Nat.mul_le_mul_right _ (by omega)
   have h4:vx.cells.toList.length=n:=by rw[Array.length_toList,c1,hlen]
   have hle':i*ob.sz+off+vx.cells.toList.length≤C.size:=by rw[h4]; exact hfit
   have hsl:=ygu hle2
   refine⟨_,{g with β:=upd g.β key (g.β key),γ:=upd g.γ key (g.γ key)},yyy hS hn hb hfit hlen hall hrepy,?_⟩
   refine SR.update (o':={ob with els:=ob.els.set i el'}) (c:=g.γ key) hS ho (ycc hrow) hb (.inl ⟨rfl,rfl⟩) rfl rfl (by simp) rfl ?_ (yg8 w _ _)
    (fun b' _ hne=>setRow_other w _ _ _ (by omega)) (setRow_heap w _ C _ e _ hb) ?_ ?_ ?_
   ·intro z hz
    rcases List.mem_or_eq_of_mem_set hz with hz | rfl
    ·exact hx z hz
    ·rw[hcells,hsl,hels]
   ·intro _ z hz
    have:=(hS.dis key ob z ho hz).1
    rw[hlent]at this; cases this
   ·rw[hrow]
    simp only[if_true,List.length_set]
    exact⟨by rw[yio hle',hC.1],hC.2⟩
   ·intro i' j d hd
    obtain⟨z,hz,hdz⟩:=yap hd
    rw[yhr hle',h4]
    by_cases hii:i'=i
    ·subst hii
     rw[List.getElem?_set_self hil]at hz
     simp only[Ywh]at hz; subst hz
     rw[hcells,yhu hle2,hlen]at hdz
     split at hdz
     ·rename_i hc
      rw[if_pos (by omega)]
      refine⟨fun _=>hpc d (List.mem_of_getElem? hdz),?_⟩
      obtain⟨u,h6,h7⟩:=c2 _ _ hdz
      exact⟨u,by rw[Array.getElem?_toList,show i'*ob.sz+j - (i'*ob.sz+off)=j - off by omega]; exact h6,h7⟩
     ·rename_i hc
      rw[if_neg (by omega)]
      exact hrep i' j d (ya5 hel hdz)
    ·rw[List.getElem?_set_ne (by omega)]at hz
     have hj:j<ob.sz:=by rw[← hx z (List.mem_of_getElem? hz)]; exact(List.getElem?_eq_some_iff.1 hdz).1
     rw[if_neg]
     ·exact hrep i' j d (ya5 hz hdz)
     ·rintro⟨q1,q2⟩
      rcases Nat.lt_or_gt_of_ne hii with h6 | h6
      ·have:(i'+1)*ob.sz≤i*ob.sz:=Nat.mul_le_mul_right _ h6
       rw[Nat.add_mul,Nat.one_mul]at this
       omega
      ·have:(i+1)*ob.sz≤i'*ob.sz:=Nat.mul_le_mul_right _ h6
       rw[Nat.add_mul,Nat.one_mul]at this
       omega
  ·cases h
 ·cases h
end
end Go.Proofs.YtijnglngaogdjaaGreatDoor.PI
namespace Go.Proofs.YtijnglngaogdjaaGreatDoor.PI
open Go Go.RowKit
section
variable {P:Program} {base:Nat} {w:World} {g:Ghost} {st:St}
theorem yJo(off:Nat):∀ (l:List Value) (k:Nat) (cs:Array Value),off+k+l.length≤cs.size→
  ((l.zipIdx k).foldl (fun cs x=>cs.setIfInBounds (off+x.2) x.1) cs).size=cs.size∧
  ∀ p,((l.zipIdx k).foldl (fun cs x=>cs.setIfInBounds (off+x.2) x.1) cs)[p]?=if off+k≤p∧p<off+k+l.length then l[p - (off+k)]? else cs[p]?
 |[],k,cs,_=>⟨rfl,fun p=>by simp; intro h1 h2; omega⟩
 |v::l,k,cs,h=>by
  simp only[List.length_cons]at h
  obtain⟨h1,h2⟩:=yJo off l (k+1) (cs.setIfInBounds (off+k) v) (by simp; omega)
  simp only[List.zipIdx_cons,List.foldl_cons]
  refine⟨by rw[h1]; simp,fun p=>?_⟩
  rw[h2 p]
  by_cases c1:p<off+k
  ·rw[if_neg (by omega),if_neg (by simp; omega),Array.getElem?_setIfInBounds_ne (by omega)]
  ·by_cases c2:p=off+k
   ·subst c2
    rw[if_neg (by omega),if_pos (by simp)]
    simp[show off+k<cs.size by omega]
   ·by_cases c3:p<off+k+(l.length+1)
    ·rw[if_pos (by omega),if_pos (by simp; omega)]
     rw[show p - (off+k)=(p - (off+(k+1)))+1 by omega,List.getElem?_cons_succ]
    ·rw[if_neg (by omega),if_neg (by simp; omega),Array.getElem?_setIfInBounds_ne (by omega)]
theorem yJp{place:Nat→Option (Nat×Nat)}{cells:Array Value}{i off size:Nat}{v:Value}{rest:List (Nat×Value)}(hp:place i=some (off,size))(hs:v.cells.size=size)(hle:off+size≤cells.size) :
  ∃ cs',Instr.fill place cells ((i,v)::rest)=Instr.fill place cs' rest∧cs'.size=cells.size∧∀ p,cs'[p]?=if off≤p∧p<off+size then v.cells[p - off]? else cells[p]?:=by
 have h:=yJo off v.cells.toList 0 cells (by simp[hs]; exact hle)
 refine⟨v.cells.zipIdx.foldl (fun cs (c,j)=>cs.setIfInBounds (off+j) c) cells,?_,?_,?_⟩
 ·have h2:¬ (off+v.cells.size > cells.size):=by omega
  simp[Instr.fill,hp,hs]
  intro h3; omega
 ·have:=h.1
  rw[← Array.foldl_toList]
  simpa[Array.toList_zipIdx]using this
 ·intro p
  have:=h.2 p
  rw[← Array.foldl_toList]
  simp only[Array.toList_zipIdx,Nat.add_zero,Array.length_toList,hs,Array.getElem?_toList]at this ⊢
  exact this
theorem yJq{place:Nat→Option (Nat×Nat)}:∀ (ps:List (Nat×Nat×Nat×D×Value)) (cs:List D) (cells:Array Value) (ds:List D),
  yar cs (ps.map fun p=>(p.2.1,p.2.2.1,p.2.2.2.1))=some ds→(∀ p∈ps,place p.1=some (p.2.1,p.2.2.1))→(∀ p∈ps,RepV w g st p.2.2.2.1 p.2.2.2.2)→
  cs.length=cells.size→(∀ (j:Nat) d v,cs[j]?=some d→cells[j]?=some v→RepV w g st d v)→
  ∃ cells',Instr.fill place cells (ps.map fun p=>(p.1,p.2.2.2.2))=some cells'∧ds.length=cells'.size∧∀ (j:Nat) d v,ds[j]?=some d→cells'[j]?=some v→RepV w g st d v
 |[],cs,cells,ds,h,_,_,hl,hr=>by
  simp[yar]at h; subst h
  exact⟨cells,rfl,hl,hr⟩
 |p::ps,cs,cells,ds,h,hp,hv,hl,hr=>by
  obtain⟨i,off,size,d,v⟩:=p
  simp only[List.map_cons,yar]at h
  split at h
  ·rename_i hc
   simp only[Bool.and_eq_true,beq_iff_eq,decide_eq_true_eq]at hc
   obtain⟨⟨h1,h2⟩,h3⟩:=hc
   obtain⟨c1,c2,_⟩:=ykh h3 (hv (i,off,size,d,v) (by simp))
   obtain⟨cs',e1,e2,e3⟩:=yJp (rest:=ps.map fun p=>(p.1,p.2.2.2.2)) (hp (i,off,size,d,v) (by simp)) (by rw[c1,h1]) (by omega:off+size≤cells.size)
   simp only[List.map_cons]
   simp only at e1
   rw[e1]
   refine yJq ps _ cs' ds h (fun p hm=>hp p (by simp[hm])) (fun p hm=>hv p (by simp[hm])) ?_ ?_
   ·rw[ygu (by omega),e2,hl]
   ·intro j x u hx hu
    rw[yhu (by omega),h1]at hx
    rw[e3]at hu
    split at hx
    ·rename_i hc
     rw[if_pos hc]at hu
     obtain⟨u',h4,h5⟩:=c2 _ _ hx
     simp only at hu
     rw[h4]at hu
     simp only[Ywh]at hu
     rwa [← hu]
    ·rename_i hc
     rw[if_neg hc]at hu
     exact hr j x u hx hu
  ·cases h
theorem yQw{d:D}{v:Value}{cs:List D}(h:yw3 v=some d)(hd:d=.agg cs):∃ vs:List Value,v=.agg vs.toArray∧cs.length=vs.length∧∀ (j:Nat) x u,cs[j]?=some x→vs[j]?=some u→RepV w g st x u:=by
 subst hd
 have hr:=yjw (w:=w) (g:=g) (st:=st) h
 cases hr with
 |agg _ vs h1 h2=>exact⟨vs,rfl,h1,h2⟩
theorem yC1(size:Nat):∀ (vs:List Value) (k:Nat) (cells:Array Value),(∀ v∈vs,v.cells.size=size)→(k+vs.length)*size≤cells.size→
  ∃ cells',Instr.fill (fun i=>some (i*size,size)) cells ((vs.zipIdx k).map fun x=>(x.2,x.1))=some cells'∧cells'.size=cells.size∧(∀ p,p<k*size→cells'[p]?=cells[p]?)∧
   ∀ (i:Nat) v,vs[i]?=some v→∀ j,j<size→cells'[(k+i)*size+j]?=v.cells[j]?
 |[],k,cells,_,_=>⟨cells,rfl,rfl,fun _ _=>rfl,fun i v h=>by simp at h⟩
 |v::vs,k,cells,hv,hle=>by
  simp only[List.length_cons]at hle
  have e0:(k+(vs.length+1))*size=k*size+size+vs.length*size:=by rw[Nat.add_mul,Nat.add_mul,Nat.one_mul]; omega
  obtain⟨cs',e1,e2,e3⟩:=yJp (place:=fun i=>some (i*size,size)) (cells:=cells) (i:=k) (off:=k*size) (size:=size) (v:=v) (rest:=(vs.zipIdx (k+1)).map fun x=>(x.2,x.1)) rfl (hv v (by simp)) (by omega)
  obtain⟨cells',h1,h2,h3,h4⟩:=yC1 size vs (k+1) cs' (fun u hu=>hv u (by simp[hu])) (by rw[e2]; rw[show k+1+vs.length=k+(vs.length+1) by omega]; exact hle)
  have e4:(k+1)*size=k*size+size:=by rw[Nat.add_mul,Nat.one_mul]
  refine⟨cells',?_,h2.trans e2,?_,?_⟩
  ·simp only[List.zipIdx_cons,List.map_cons]
   rw[e1]; exact h1
  ·intro p hp
   rw[h3 p (by omega),e3,if_neg (by omega)]
  ·intro i u hu j hj
   cases i with
   |zero=>
    simp only[List.getElem?_cons_zero,Ywh]at hu; subst hu
    rw[Nat.add_zero,h3 _ (by omega),e3,if_pos (by omega)]
    congr 1; omega
   |succ i=>
    simp only[List.getElem?_cons_succ]at hu
    have:=h4 i u hu j hj
    rwa [show k+1+i=k+(i+1) by omega]at this
theorem SR.fresh(h:SR base w g st){w':World}{C:Array Value}{e:TypeId}{fz:Nat×Nat}(hw:w'.heap=w.heap.push (.cells C e fz))(hbes:Beside w w') :
  Go1 base w g st w' {g with Im:=fun b x=>g.Im b x∨(b=w.heap.size∧x<C.size)} st:=by
 refine SR.more h hbes (fun b hb=>by rw[hw]; exact ynr w _ b hb) (fun b x hb=>.inl hb) (fun b x hb=>?_) (fun b x hb=>?_)
 ·rcases hb with hb | ⟨rfl,_⟩
  ·exact .inl hb
  ·exact .inr (Nat.le_refl _)
 ·rcases hb with hb | ⟨rfl,hx⟩
  ·have hlt:=h.im_lt hb
   have:w'.cell? ⟨b,x,none⟩=w.cell? ⟨b,x,none⟩:=by simp only[World.cell?,hw,ynr w _ b hlt]
   rw[this]; exact h.im b x hb
  ·simp[World.cell?,hw,hx]
def Yj3(base:Nat)(w:World)(g:Ghost)(st:St)(v:Value):Prop:=
 ∃ b n C e,v=.slice (some ⟨b,0,none⟩) n n∧w.heap[b]?=some (.cells C e (0,0))∧base≤b∧∀ (k:Nat) (o:Obj),st[k]?=some o→g.β k≠b
def Ycl(P:Program)(base:Nat)(w:World)(g:Ghost)(st:St)(s:Sem Value)(d:D)(st':St):Prop:=
 ∃ v w' g',s.run P w=.ok v w'∧Go1 base w g st w' g' st'∧RepV w' g' st' d v∧Yj3 base w' g' st' v
theorem Ybz(hS:SR base w g st){t elem:TypeId}{i:TypeInfo}{z:Value}{sz:Nat}{els:List D}{vs:List Value}(hu:P.underlying t=some (.slice elem))(hi:P.info? elem=some i)(hz:i.zero=some z)(hsz:i.size=sz)(h0:0<sz)
  (hpure:∀ d∈els,purA d=true) (hlen:∀ d∈els,d.cells.length=sz) (hl:els.length=vs.length) (hr:∀ (i:Nat) d v,els[i]?=some d→vs[i]?=some v→RepV w g st d v) (hbig:els.length*sz≤16777216)
  {len:Nat} {parts:Array (Nat×Value)} (hlen':len=vs.length) (hparts:parts.toList=(vs.zipIdx 0).map fun x=>(x.2,x.1)) :
  Ycl P base w g st (Instr.buildSlice t len parts) (.slc sz els true) st:=by
 subst hlen'
 have hpc:∀ (i:Nat) e,els[i]?=some e→∀ x∈e.cells,x.pure1=true:=by
  intro i e he x hx
  have h1:=hpure e (List.mem_of_getElem? he)
  cases e with
  |agg l=>simp only[purA,List.all_eq_true]at h1; exact h1 x hx
  |_=>simp only[D.cells,List.mem_singleton]at hx; subst hx; exact h1
 have hcs:∀ (i:Nat) d v,els[i]?=some d→vs[i]?=some v→v.cells.size=sz∧∀ (j:Nat) x,d.cells[j]?=some x→∃ u,v.cells[j]?=some u∧RepV w g st x u:=by
  intro i d v hd hv
  obtain⟨c1,c2,_⟩:=ykh (List.all_eq_true.2 fun x hx=>yhx (hpc i d hd x hx)) (hr i d v hd hv)
  exact⟨by rw[c1]; exact hlen d (List.mem_of_getElem? hd),c2⟩
 have hvs:∀ v∈vs,v.cells.size=sz:=by
  intro v hv
  obtain⟨i,hi⟩:=List.mem_iff_getElem?.1 hv
  have hil:i<els.length:=by rw[hl]; exact(List.getElem?_eq_some_iff.1 hi).1
  exact(hcs i _ v (List.getElem?_eq_getElem hil) hi).1
 have goal:∀ C:Array Value,C.size=vs.length*sz→(∀ (i:Nat) v,vs[i]?=some v→∀ j,j<sz→C[i*sz+j]?=v.cells[j]?)→
   (Instr.buildSlice t vs.length parts).run P w=.ok (.slice (some ⟨w.heap.size,0,none⟩) vs.length vs.length) (w.alloc (.cells C elem))→Ycl P base w g st (Instr.buildSlice t vs.length parts) (.slc sz els true) st:=by
  intro C hC1 hC2 hrun
  have hgo:=hS.fresh (w':=w.alloc (.cells C elem)) (C:=C) (e:=elem) (fz:=(0,0)) rfl ⟨rfl,rfl,rfl,by simp⟩
  refine⟨_,_,_,hrun,hgo,?_,⟨w.heap.size,vs.length,C,elem,rfl,?_,hS.size,fun k o hk=>Nat.ne_of_lt (hS.lt hk)⟩⟩
  case refine_2=>
   show(w.heap.push _)[w.heap.size]?=_
   simp
  rw[← hl]
  refine RepV.slc_mk h0 hlen (Nat.le_refl _) (fun _=>rfl) ?_
  intro i j d hd
  obtain⟨e,he,hdj⟩:=yap hd
  have hil:i<els.length:=(List.getElem?_eq_some_iff.1 he).1
  have hj:j<sz:=by rw[← hlen e (List.mem_of_getElem? he)]; exact(List.getElem?_eq_some_iff.1 hdj).1
  have hv:vs[i]?=some (vs[i]'(by omega)):=List.getElem?_eq_getElem (by omega)
  obtain⟨u,h3,h4⟩:=(hcs i e _ he hv).2 j d hdj
  have hlt:i*sz+j<C.size:=by
   rw[hC1]
   calc i*sz+j<i*sz+sz:=by omega
    _=(i+1)*sz:=by rw[Nat.add_mul,Nat.one_mul]
    _≤vs.length*sz:=Nat.mul_le_mul_right _ (by omega)
  refine⟨hpc i e he d (List.mem_of_getElem? hdj),.inr ⟨rfl,by omega⟩,u,?_,hgo.rep h4⟩
  have:(w.alloc (.cells C elem)).heap[w.heap.size]?=some (.cells C elem (0,0)):=by
   show(w.heap.push _)[w.heap.size]?=_
   simp
  simp only[World.cell?,this]
  have:=hC2 i _ hv j hj
  rw[h3]at this
  simpa using this
 by_cases hn:vs.length=0
 ·have hv0:vs=[]:=List.eq_nil_of_length_eq_zero hn
  refine goal #[] (by simp[hn]) (fun i v hv=>by simp[hv0]at hv) ?_
  subst hv0
  simp at hparts
  simp[Instr.buildSlice,run_underlying hu,sizeOf,typeInfo,hi,hparts,Instr.fill,newRow,Array.range_zero']
 ·obtain⟨C,h1,h2,h3,h4⟩:=yC1 sz vs 0 ((Array.range (vs.length*sz)).map (z.cells[· % z.cells.size]!)) hvs (by simp)
  refine goal C (by rw[h2]; simp) (fun i v hv j hj=>by have:=h4 i v hv j hj; rwa [Nat.zero_add]at this) ?_
  have hp0:¬ vs.length*sz=0:=by
   intro e
   rcases Nat.mul_eq_zero.1 e with e | e <;> omega
  subst hsz
  exact run_buildSlice w t elem vs.length parts C i z hu hi hz (by rw[← hl]; omega) hp0 (by rw[hparts]; exact h1)
theorem yZp(hS:SR base w g st){b m:Nat}{C:Array Value}{e:TypeId}(hb:w.heap[b]?=some (.cells C e (0,0)))(hbase:base≤b)(hne:∀ (k:Nat) (o:Obj),st[k]?=some o→g.β k≠b) :
  Go1 base w g st (w.freeze ⟨b,m,none⟩ 1) g st:=by
 have hlt:b<w.heap.size:=(Array.getElem?_eq_some_iff.1 hb).1
 have hoth:∀ k,k≠b→(w.freeze ⟨b,m,none⟩ 1).heap[k]?=w.heap[k]?:=by
  intro k hk
  simp only[World.freeze,Nat.one_ne_zero,if_false,Array.getElem?_modify]
  rw[if_neg (fun e=>hk e.symm)]
 have hself:(w.freeze ⟨b,m,none⟩ 1).heap[b]?=some (.cells C e (m,m+1)):=by
  simp only[World.freeze,Nat.one_ne_zero,if_false,Array.getElem?_modify]
  simp[hb]
 have hcell:∀ k x,(w.freeze ⟨b,m,none⟩ 1).cell? ⟨k,x,none⟩=w.cell? ⟨k,x,none⟩:=by
  intro k x
  by_cases hk:k=b
  ·subst hk
   simp only[World.cell?,hself,hb]
  ·simp only[World.cell?,hoth k hk]
 have hI:ImLe w g (w.freeze ⟨b,m,none⟩ 1) g:=⟨fun k x h=>⟨h,hcell k x⟩,fun k o ho hs=>by
  by_cases hk:k=b
  ·subst hk
   rw[hb]at ho
   obtain rfl:=Option.some.inj ho
   simp[spM]at hs
  ·rw[hoth k hk]; exact ho⟩
 have hsz:(w.freeze ⟨b,m,none⟩ 1).heap.size=w.heap.size:=by simp[World.freeze]
 refine⟨⟨fun k o hk hm=>(hS.mp k o hk hm).mono hI (Evo.refl _ _) rfl (hoth _ (hne k o hk)),?_,hS.inj,fun k x h=>by rw[hcell]; exact hS.im k x h,hS.dis,by rw[hsz]; exact hS.size⟩,Evo.refl _ _,hI,fun _ _ h=>.inl h,⟨rfl,rfl,rfl,by rw[hsz]; exact Nat.le_refl _,fun k hk=>hoth k (by omega)⟩,fun k o ho hs=>?_⟩
 ·intro k o hk hm
  obtain⟨C1,e1,h1,h2,h3,h4,h5,h6⟩:=hS.blk k o hk hm
  refine⟨C1,e1,by rw[hoth _ (hne k o hk)]; exact h1,h2,h3,h4,h5,fun i j d hd=>?_⟩
  obtain⟨q1,v,q2,q3⟩:=h6 i j d hd
  exact⟨q1,v,q2,q3.mono hI (Evo.refl _ _)⟩
 ·by_cases hk:k=b
  ·subst hk
   rw[hb]at ho
   obtain rfl:=Option.some.inj ho
   simp[special]at hs
  ·exact .same (by rw[hoth k hk]; exact ho)
end
end Go.Proofs.YtijnglngaogdjaaGreatDoor.PI
namespace Go.Proofs.YtijnglngaogdjaaGreatDoor.PI
open Go Go.RowKit
section
variable {P:Program} {base:Nat} {w:World} {g:Ghost} {st:St}
theorem Ycj(w:World)(o:Go.Obj):(w.alloc o).heap[w.heap.size]?=some o:=by
 show(w.heap.push o)[w.heap.size]?=_
 simp
theorem yX0(hS:SR base w g st){t elem:TypeId}{i:TypeInfo}{z:Value}{zd:D}{sz bytes:Nat}{dl dc:D}{vl vc:Value}{l c:Nat}(hu:P.underlying t=some (.slice elem))(hi:P.info? elem=some i)(hz:i.zero=some z)(hzd:yw3 z=some zd)
  (hsz:i.size=sz) (hby:i.bytes=bytes) (h0:0<sz) (hzl:zd.cells.length=sz) (hzp:zd.cells.all D.pure1=true) (hl:yd5 dl=some l) (hc:yd5 dc=some c) (hrl:RepV w g st dl vl) (hrc:RepV w g st dc vc)
  (hlc:l≤c) (hc1:c≤4294967296) (hc2:c*bytes≤140737488355328) :
  RunsTo P base w g st (Instr.makeSlice t vl vc) (.row st.length l 0 l) (st++[{row:=true,sz,els:=List.replicate l zd,lent:=false}]):=by
 obtain⟨kl,rfl⟩:=yj7 hl hrl
 obtain⟨kc,rfl⟩:=yj7 hc hrc
 subst hsz; subst hby
 have hb:((i.bytes:Int)*(c:Int))≤281474976710656:=by
  have:((c*i.bytes:Nat):Int)≤140737488355328:=by omega
  rw[Int.natCast_mul,Int.mul_comm]at this
  omega
 have hrun:=run_make (P:=P) w t elem i z hu hi hz kl kc (l:Int) (c:Int) (by omega) (by omega) hb (by omega)
 simp only[Int.toNat_natCast]at hrun
 have hzall:zd.cells.all D.isCell=true:=List.all_eq_true.2 fun x hx=>yhx (List.all_eq_true.1 hzp x hx)
 have hzr:=yjw (w:=w) (g:=g) (st:=st) hzd
 obtain⟨c1,c2,_⟩:=ykh hzall hzr
 have hzsz:z.cells.size=i.size:=by rw[c1,hzl]
 have hlt:∀ i' j,i'<c→j<i.size→i'*i.size+j<c*i.size:=by
  intro i' j h1 h2
  calc i'*i.size+j<i'*i.size+i.size:=by omega
   _=(i'+1)*i.size:=by rw[Nat.add_mul,Nat.one_mul]
   _≤c*i.size:=Nat.mul_le_mul_right _ h1
 have hcell:∀ i' j u,i'<c→j<i.size→z.cells[j]?=some u→(madeCells z.cells (c*i.size))[i'*i.size+j]?=some u:=by
  intro i' j u h1 h2 h3
  have h4:=hlt i' j h1 h2
  have h5:(i'*i.size+j) % z.cells.size=j:=by rw[hzsz,Nat.mul_comm,Nat.mul_add_mod,Nat.mod_eq_of_lt h2]
  have h6:z.cells[j]! = u:=by rw[getElem!_def,h3]
  simp[madeCells,h4,h5,h6]
 have hmax:c≤maxLen:=by unfold maxLen; omega
 have hgo:=SR.push (o:={row:=true,sz:=i.size,els:=List.replicate l zd,lent:=false}) (c:=c) (C:=madeCells z.cells (c*i.size)) (e:=elem) (w':=w.alloc (.cells (madeCells z.cells (c*i.size)) elem)) hS
  ⟨rfl,rfl,rfl,by simp⟩ (fun b hb=>ynr w _ b hb) (Ycj w _) rfl h0 (fun x hx=>by rw[List.eq_of_mem_replicate hx]; exact hzl)
  (by simp[size_madeCells]; exact⟨hlc,hmax⟩) (by
   intro i' j d hd
   obtain⟨e,he,hdj⟩:=yap hd
   obtain rfl:e=zd:=List.eq_of_mem_replicate (List.mem_of_getElem? he)
   refine⟨fun _=>List.all_eq_true.1 hzp d (List.mem_of_getElem? hdj),?_⟩
   have h1:i'<l:=by simpa using (List.getElem?_eq_some_iff.1 he).1
   have h2:j<i.size:=by rw[← hzl]; exact(List.getElem?_eq_some_iff.1 hdj).1
   obtain⟨u,h3,h4⟩:=c2 j d hdj
   exact⟨u,hcell i' j u (by omega) h2 h3,h4⟩)
 refine⟨_,_,_,hrun,hgo,?_⟩
 refine .row _ _ _ _ {row:=true,sz:=i.size,els:=List.replicate l zd,lent:=false} _ rfl (by simp) rfl (by simp) fun _=>⟨?_,by omega⟩
 simp[ybn]
structure News (w:World) (g:Ghost) (st:St) (P:Program) (x:Value) (size:Nat) (els:List D) (ns:List Value):Prop where
 len:ns.length=els.length*size
 one:∀ u∈ns,u.oneCell'=true
 rep:∀ (i j:Nat) d,ybm els i j=some d→∃ u,ns[i*size+j]?=some u∧RepV w g st d u
 lenOf:(Builtin.lenOf x).run P w=.ok els.length w∧(Builtin.lenOf x).run P w.drew=.ok els.length w.drew
 first:(Builtin.firstCells size els.length x).run P w=.ok ns.toArray w∧(Builtin.firstCells size els.length x).run P w.drew=.ok ns.toArray w.drew
theorem ysn{x:Value}{size:Nat}{els:List D}(hE:Els w g st x size els):∃ ns,News w g st P x size els ns:=by
 obtain⟨⟨a,cap,rfl,hsh⟩,hpure,hlen⟩:=hE
 by_cases hn:els=[]
 ·subst hn
  refine⟨[],by simp,by simp,fun i j d h=>by simp[ybm]at h,⟨by simp[Builtin.lenOf],by simp[Builtin.lenOf]⟩,?_⟩
  cases a <;> simp[Builtin.firstCells,loadCells,loadCellsFrom]
 ·obtain⟨b,off,rfl,h0,hc⟩:=hsh hn
  -- the cells themselves
  let f:Nat→Value:=fun p=>(w.cell? ⟨b,off+p,none⟩).getD undef
  have hdm:∀ p,p<els.length*size→∃ d,ybm els (p / size) (p % size)=some d∧p=p / size*size+p % size:=by
   intro p hp
   have h1:p / size<els.length:=Nat.div_lt_of_lt_mul (by rw[Nat.mul_comm]; exact hp)
   have h2:p % size<size:=Nat.mod_lt _ h0
   have he:els[p / size]?=some els[p / size]:=List.getElem?_eq_getElem h1
   have hj:p % size<els[p / size].cells.length:=by rw[hlen _ (List.getElem_mem h1)]; exact h2
   exact⟨_,ya5 he (List.getElem?_eq_getElem hj),by rw[Nat.mul_comm]; exact(Nat.div_add_mod p size).symm⟩
  have hcell:∀ p,p<els.length*size→w.cell? ((⟨b,off,none⟩:Addr).add p)=some (f p)∧(f p).oneCell'=true:=by
   intro p hp
   obtain⟨d,hd,hp'⟩:=hdm p hp
   obtain⟨u,h1,_,h3⟩:=hc _ _ d hd
   rw[cell?_add]
   rw[Nat.add_assoc,← hp']at h1
   simp only[f,h1,Option.getD_some]
   exact⟨trivial,h3⟩
  have hrun:∀ w',(∀ b o,w'.cell? ⟨b,o,none⟩=w.cell? ⟨b,o,none⟩)→(Builtin.firstCells size els.length (.slice (some ⟨b,off,none⟩) els.length cap)).run P w'=.ok ((List.range (els.length*size)).map f).toArray w':=by
   intro w' hw'
   have:=run_loadCells (P:=P) w' ⟨b,off,none⟩ (els.length*size) f (fun j hj=>by rw[cell?_add,hw',← cell?_add]; exact(hcell j hj).1)
   simpa[Builtin.firstCells]using this
  refine⟨(List.range (els.length*size)).map f,by simp,?_,?_,⟨by simp[Builtin.lenOf],by simp[Builtin.lenOf]⟩,hrun w (fun _ _=>rfl),hrun w.drew (fun _ _=>rfl)⟩
  ·intro u hu
   simp only[List.mem_map,List.mem_range]at hu
   obtain⟨p,hp,rfl⟩:=hu
   exact(hcell p hp).2
  ·intro i j d hd
   obtain⟨e,he,hdj⟩:=yap hd
   have h1:i<els.length:=(List.getElem?_eq_some_iff.1 he).1
   have h2:j<size:=by rw[← hlen e (List.mem_of_getElem? he)]; exact(List.getElem?_eq_some_iff.1 hdj).1
   have h3:i*size+j<els.length*size:=by
    calc i*size+j<i*size+size:=by omega
     _=(i+1)*size:=by rw[Nat.add_mul,Nat.one_mul]
     _≤els.length*size:=Nat.mul_le_mul_right _ h1
   obtain⟨u,h4,h5,_⟩:=hc i j d hd
   rw[Nat.add_assoc]at h4
   exact⟨u,by simp[h3,f,h4],h5⟩
theorem yMf(s:List UInt8):∃ ns,News w g st P (.string ⟨s.toArray⟩) 1 (s.map yaf) ns:=by
 have e:ByteArray.size ⟨s.toArray⟩=s.length:=by simp[ByteArray.size]
 have hx:∀ w':World,(Builtin.firstCells 1 (s.map yaf).length (.string ⟨s.toArray⟩)).run P w'=.ok ((s.map fun b=>Value.int .u8 b.toNat)).toArray w':=by
  intro w'
  simp[Builtin.firstCells]
 refine⟨s.map fun b=>Value.int .u8 b.toNat,by simp,?_,?_,⟨by simp[Builtin.lenOf,e],by simp[Builtin.lenOf,e]⟩,hx w,hx w.drew⟩
 ·intro u hu
  simp only[List.mem_map]at hu
  obtain⟨b,_,rfl⟩:=hu
  rfl
 ·intro i j d hd
  obtain⟨e,he,hdj⟩:=yap hd
  simp only[List.getElem?_map,Ywi]at he
  obtain⟨b,hb,rfl⟩:=he
  cases j with
  |zero=>
   simp[yaf,D.cells]at hdj
   subst hdj
   exact⟨.int .u8 b.toNat,by simp[hb],.int _ _⟩
  |succ j=>simp[yaf,D.cells]at hdj
theorem Yim{t tx ty e:TypeId}{i:TypeInfo}(ht:P.underlying t=some (.slice e))(htx:(∃ e',P.underlying tx=some (.slice e'))∨P.underlying tx=some .string)(hi:P.info? e=some i)
  {b sLen sCap:Nat} {C:Array Value} {e0:TypeId} (hb:w.heap[b]?=some (.cells C e0 (0,0))) {x:Value} {els:List D} {ns:List Value} (hN:News w g st P x i.size els ns) (hroom:sLen+els.length≤sCap) (hfit:sLen*i.size+ns.length≤C.size) :
  (Builtin.append_ #[t,tx] ty #[.slice (some ⟨b,0,none⟩) sLen sCap,x]).run P w=
   .ok (.slice (some ⟨b,0,none⟩) (sLen+els.length) sCap) (w.setRow b (C.toList.take (sLen*i.size)++ns++C.toList.drop (sLen*i.size+ns.length)).toArray):=by
 have hst:=run_storeCells_at P b (sLen*i.size) e0 ns 0 C w hb (by simpa using hfit) hN.one
 simp only[Nat.add_zero]at hst
 have h1:=hN.lenOf.1
 have h2:=hN.first.1
 rcases htx with⟨e',hd⟩ | hd
 ·simp[Builtin.append_,run_underlying ht,sizeOf,typeInfo,hi,run_underlying hd,h1,hroom,h2,yg9,hst]
 ·simp[Builtin.append_,run_underlying ht,sizeOf,typeInfo,hi,run_underlying hd,h1,hroom,h2,yg9,hst]
theorem yQu{t tx ty e:TypeId}{i:TypeInfo}{z:Value}(ht:P.underlying t=some (.slice e))(htx:(∃ e',P.underlying tx=some (.slice e'))∨P.underlying tx=some .string)(hi:P.info? e=some i)(hz:i.zero=some z)
  {a:Option Addr} {sLen sCap:Nat} {x:Value} {els old:List D} {ns os:List Value} (hN:News w g st P x i.size els ns) (hO:News w g st P (.slice a sLen sCap) i.size old os) (hol:old.length=sLen)
  (hg:sCap<sLen+els.length) (h63:sLen+els.length≤9223372036854775807) (hfit:Builtin.nextslicecap (sLen+els.length) sCap*i.bytes≤281474976710656) :
  (Builtin.append_ #[t,tx] ty #[.slice a sLen sCap,x]).run P w=
   .ok (.slice (some ⟨w.heap.size,0,none⟩) (sLen+els.length) (grownCap w (sLen+els.length) sCap e))
    (w.drew.alloc (.cells (os.toArray++ns.toArray++Builtin.zeroCells z.cells (grownCap w (sLen+els.length) sCap e - (sLen+els.length))) e)):=by
 subst hol
 have h1:=hN.lenOf.1
 have h2:=hN.first.2
 have h3:=hO.first.2
 have hn:¬ (old.length+els.length≤sCap):=by omega
 have h63':¬ (9223372036854775807<((old.length:Int)+(els.length:Int))):=by omega
 have h48':¬ (281474976710656<Builtin.nextslicecap (old.length+els.length) sCap*i.bytes):=by omega
 rcases htx with⟨e',hd⟩ | hd
 ·simp[Builtin.append_,run_underlying ht,sizeOf,typeInfo,zeroValue,hi,hz,run_underlying hd,h1,hn,h63',h48',Question.forced,h2,h3,newRow,grownCap]
  congr 2
  apply Array.ext'
  simp[List.append_assoc]
 ·simp[Builtin.append_,run_underlying ht,sizeOf,typeInfo,zeroValue,hi,hz,run_underlying hd,h1,hn,h63',h48',Question.forced,h2,h3,newRow,grownCap]
  congr 2
  apply Array.ext'
  simp[List.append_assoc]
theorem yJl{n cap bytes:Nat}(h:cap<n)(hb:n*bytes≤140737488355328):Builtin.nextslicecap n cap*bytes≤281474976710656:=by
 exact growslice_fits h hb
end
end Go.Proofs.YtijnglngaogdjaaGreatDoor.PI
namespace Go.Proofs.YtijnglngaogdjaaGreatDoor.PI
open Go Go.RowKit
section
variable {P:Program} {base:Nat} {w:World} {g:Ghost} {st:St}
theorem Els.cast{v:Value}{sz sz':Nat}{els:List D}(h:Els w g st v sz els)(e:sz=sz'∨els=[]):Els w g st v sz' els:=by
 rcases e with rfl | rfl
 ·exact h
 ·obtain⟨⟨a,cap,h1,_⟩,_,_⟩:=h
  exact⟨⟨a,cap,h1,fun h=>absurd rfl h⟩,fun i j d hd=>by simp[ybm]at hd,fun e he=>by cases he⟩
theorem yAu(hS:SR base w g st){x:D}{sz:Nat}{els:List D}{v:Value}(h:ygl st x=some (sz,els))(hr:RepV w g st x v):Els w g st v sz els∨∃ s,x=.str s∧sz=1∧els=s.map yaf:=by
 unfold ygl at h
 split at h
 ·simp only[Ywh,Ywj]at h
  obtain⟨rfl,rfl⟩:=h
  exact .inl (yy7 hr)
 ·exact .inl (yLr hS h hr).1
 ·rename_i key off n sz' ag
  split at h
  ·rename_i els' he
   split at h
   ·rename_i hpa
    simp only[Ywh,Ywj]at h
    obtain⟨rfl,rfl⟩:=h
    exact .inl (Yb0 hS he hr (List.all_eq_true.1 hpa)).1
   ·cases h
  ·cases h
 ·simp only[Ywh,Ywj]at h
  obtain⟨rfl,rfl⟩:=h
  exact .inr ⟨_,rfl,rfl,rfl⟩
 ·cases h
theorem Ymn(hS:SR base w g st){x:D}{sz szx:Nat}{els:List D}{v:Value}(h:ygl st x=some (szx,els))(hr:RepV w g st x v)(hsz:szx=sz∨els=[]) :
  ∃ ns,News w g st P v sz els ns:=by
 rcases yAu hS h hr with h1 | ⟨s,rfl,rfl,rfl⟩
 ·exact ysn (h1.cast hsz)
 ·obtain rfl:=yi0 hr
  rcases hsz with rfl | hs
  ·exact yMf s
  ·simp at hs; subst hs
   have e:ByteArray.size ⟨([]:List UInt8).toArray⟩=0:=rfl
   exact⟨[],by simp,by simp,fun i j d hd=>by simp[ybm]at hd,⟨by simp[Builtin.lenOf,e],by simp[Builtin.lenOf,e]⟩,⟨by simp[Builtin.firstCells],by simp[Builtin.firstCells]⟩⟩
theorem yTs(hS:SR base w g st){x:D}{sz:Nat}{els:List D}{v:Value}(h:ygl st x=some (sz,els))(hr:RepV w g st x v):(∀ e∈els,e.cells.length=sz)∧∀ i j d,ybm els i j=some d→d.pure1=true:=by
 rcases yAu hS h hr with h1 | ⟨s,rfl,rfl,rfl⟩
 ·exact⟨h1.len,h1.pure⟩
 ·refine⟨fun e he=>?_,fun i j d hd=>?_⟩
  ·simp only[List.mem_map]at he
   obtain⟨b,_,rfl⟩:=he
   rfl
  ·obtain⟨e,he,hdj⟩:=yap hd
   simp only[List.getElem?_map,Ywi]at he
   obtain⟨b,_,rfl⟩:=he
   cases j with
   |zero=>simp[yaf,D.cells]at hdj; subst hdj; rfl
   |succ j=>simp[yaf,D.cells]at hdj
theorem yl8(w:World)(o:Go.Obj):(w.drew.alloc o).heap[w.heap.size]?=some o:=by
 show(w.heap.push o)[w.heap.size]?=_
 simp
theorem yJk{sz:Nat}{old els:List D}{os ns zs:List Value}(hos:os.length=old.length*sz)
  (ho:∀ (i j:Nat) d,ybm old i j=some d→∃ u,os[i*sz+j]?=some u∧RepV w g st d u) (hn:∀ (i j:Nat) d,ybm els i j=some d→∃ u,ns[i*sz+j]?=some u∧RepV w g st d u) (hns:ns.length=els.length*sz) :
  ∀ (i j:Nat) d,ybm (old++els) i j=some d→∃ u,(os++ns++zs)[i*sz+j]?=some u∧RepV w g st d u:=by
 intro i j d hd
 obtain⟨e,he,hdj⟩:=yap hd
 by_cases h1:i<old.length
 ·rw[List.getElem?_append_left h1]at he
  obtain⟨u,h2,h3⟩:=ho i j d (ya5 he hdj)
  have h4:i*sz+j<os.length:=(List.getElem?_eq_some_iff.1 h2).1
  exact⟨u,by rw[List.append_assoc,List.getElem?_append_left h4]; exact h2,h3⟩
 ·rw[List.getElem?_append_right (by omega)]at he
  obtain⟨u,h2,h3⟩:=hn (i - old.length) j d (ya5 he hdj)
  have h5:i*sz=old.length*sz+(i - old.length)*sz:=by rw[← Nat.add_mul]; congr 1; omega
  refine⟨u,?_,h3⟩
  have h6:(i - old.length)*sz+j<ns.length:=(List.getElem?_eq_some_iff.1 h2).1
  rw[List.getElem?_append_left (by rw[List.length_append]; omega),List.getElem?_append_right (by omega),hos,h5,show old.length*sz+(i - old.length)*sz+j - old.length*sz=(i - old.length)*sz+j by omega]
  exact h2
theorem Yey(hS:SR base w g st){t tx ty e:TypeId}{i:TypeInfo}{z:Value}{sz bytes:Nat}{s x d:D}{vs vx:Value}{st':St}(ht:P.underlying t=some (.slice e))(htx:(∃ e',P.underlying tx=some (.slice e'))∨P.underlying tx=some .string)
  (hi:P.info? e=some i) (hz:i.zero=some z) (hsz:i.size=sz) (hby:i.bytes=bytes) (hzs:z.cells.size=sz) (h:papp st sz bytes s x=some (d,st')) (hrs:RepV w g st s vs) (hrx:RepV w g st x vx) :
  RunsTo P base w g st (Builtin.append_ #[t,tx] ty #[vs,vx]) d st':=by
 subst hsz; subst hby
 unfold papp at h
 split at h
 ·cases h
 rename_i szx xs hx
 split at h
 ·cases h
 rename_i hc
 simp only[Bool.or_eq_true,Bool.not_eq_true',Bool.or_eq_false_iff,beq_eq_false_iff_ne,List.isEmpty_eq_false_iff,beq_iff_eq,not_or,not_and,ne_eq]at hc
 have h0:0<i.size:=by omega
 have hsx:szx=i.size∨xs=[]:=by
  by_cases e1:szx=i.size
  ·exact .inl e1
  ·refine .inr ?_
   by_cases e2:xs=[]
   ·exact e2
   ·exact absurd e2 (hc.1 e1)
 obtain⟨ns,hN⟩:=Ymn (P:=P) hS hx hrx hsx
 obtain⟨hxl,hxp⟩:=yTs hS hx hrx
 have hxl':∀ e∈xs,e.cells.length=i.size:=by
  intro e he
  rcases hsx with rfl | rfl
  ·exact hxl e he
  ·cases he
 split at h
 ·
  rename_i key tot off len
  split at h
  case h_2=>cases h
  rename_i o ho
  split at h
  case isFalse=>cases h
  rename_i hcond
  simp only[Bool.and_eq_true,beq_iff_eq,decide_eq_true_eq]at hcond
  obtain⟨⟨⟨⟨⟨⟨hrow,hosz⟩,htot⟩,rfl⟩,hlen⟩,hbytes⟩,hmax⟩:=hcond
  simp only[Ywh,Ywj]at h
  obtain⟨rfl,rfl⟩:=h
  obtain⟨ob,h1,h2,h3,rfl,h5⟩:=yun (by simp[live,ho,hrow,htot]) hrs
  obtain rfl:ob=o:=Option.some.inj (h1.symm.trans ho)
  subst hlen
  subst htot
  obtain⟨C,e',hb,hbase,hszp,hxx,hC,hrep⟩:=hS.blk key ob ho (ycc hrow)
  rw[hrow]at hC
  simp only[if_true]at hC
  rw[Nat.zero_mul,Nat.sub_zero]
  have hkl:key<st.length:=(List.getElem?_eq_some_iff.1 ho).1
  have hrepn:∀ (C':Array Value),(∀ (i' j:Nat) d,ybm (ob.els++xs) i' j=some d→∃ u,C'[i'*ob.sz+j]?=some u∧RepV w g st d u)→
    ∀ (i' j:Nat) d,ybm (ob.els++xs) i' j=some d→(ob.row=true→d.pure1=true)∧∃ u,C'[i'*ob.sz+j]?=some u∧RepV w g st d u:=by
   intro C' hC' i' j d hd
   refine⟨fun _=>?_,hC' i' j d hd⟩
   by_cases h6:i'<ob.els.length
   ·rw[yki h6]at hd
    exact(hrep i' j d hd).1 hrow
   ·obtain⟨e1,he1,hd1⟩:=yap hd
    rw[List.getElem?_append_right (by omega)]at he1
    exact hxp _ _ _ (ya5 he1 hd1)
  have hels:∀ y∈ob.els++xs,y.cells.length=ob.sz:=by
   intro y hy
   rcases List.mem_append.1 hy with hy | hy
   ·exact hxx y hy
   ·rw[hosz]; exact hxl' y hy
  have hfin:∀ (B c:Nat) (w':World) (C':Array Value) (e'':TypeId),((B=g.β key∧c=g.γ key)∨(w.heap.size≤B∧ob.els.length<(ob.els++xs).length∧ob.row=true))→Beside w w'→(∀ b,b<w.heap.size→b≠B→w'.heap[b]?=w.heap[b]?)→
    w'.heap[B]?=some (.cells C' e'' (0,0))→(B=g.β key→∀ y,g.Im (g.β key) y→C'[y]?=C[y]?)→C'.size=c*ob.sz→(ob.els++xs).length≤c→c≤maxLen→
    (∀ (i' j:Nat) d,ybm (ob.els++xs) i' j=some d→∃ u,C'[i'*ob.sz+j]?=some u∧RepV w g st d u)→
    (Builtin.append_ #[t,tx] ty #[.slice (some ⟨g.β key,0,none⟩) ob.els.length (g.γ key),vx]).run P w=.ok (.slice (some ⟨B,0,none⟩) (ob.els.length+xs.length) c) w'→
    RunsTo P base w g st (Builtin.append_ #[t,tx] ty #[.slice (some ⟨g.β key,0,none⟩) ob.els.length (g.γ key),vx]) (.row key (ob.els.length+xs.length) 0 (ob.els.length+xs.length)) (st.set key {ob with els:=ob.els++xs}):=by
   intro B c w' C' e'' hB hbes hsame hblk hIm hsize hcap hcm hcell hrun
   have hgo:=SR.update (o':={ob with els:=ob.els++xs}) hS ho (ycc hrow) hb hB rfl rfl (by simp) rfl hels hbes hsame hblk hIm (by rw[hrow]; simp only[if_true]; exact⟨hsize,hcap,hcm⟩) (hrepn C' hcell)
   refine⟨_,_,_,hrun,hgo,?_⟩
   refine .row _ _ _ _ {ob with els:=ob.els++xs} _ rfl (by simp[hkl]) hrow (by simp) fun _=>⟨?_,by omega⟩
   simp[ybn]
  by_cases hroom:ob.els.length+xs.length≤g.γ key
  ·have hfit:ob.els.length*i.size+ns.length≤C.size:=by
    rw[hN.len,hC.1,hosz,← Nat.add_mul]; exact Nat.mul_le_mul_right _ hroom
   -- the block's type is the slice's own,or it does not matter: the store looks at the cells alone
   have hst:(Builtin.append_ #[t,tx] ty #[.slice (some ⟨g.β key,0,none⟩) ob.els.length (g.γ key),vx]).run P w=.ok (.slice (some ⟨g.β key,0,none⟩) (ob.els.length+xs.length) (g.γ key)) (w.setRow (g.β key) (C.toList.take (ob.els.length*i.size)++ns++C.toList.drop (ob.els.length*i.size+ns.length)).toArray):=
    Yim ht htx hi hb hN hroom hfit
   refine hfin (g.β key) (g.γ key) _ _ e' (.inl ⟨rfl,rfl⟩) (yg8 w _ _) (fun b _ hne=>setRow_other w _ _ _ (by omega)) (setRow_heap w _ C _ e' _ hb) ?_ ?_ (by simpa using hroom) hC.2.2 ?_ hst
   ·intro _ y hy
    have:=(hS.dis key ob y ho hy).2
    rw[hosz]at this
    rw[yhr hfit,if_neg (by omega)]
   ·rw[yio hfit,hC.1]
   ·intro i' j d hd
    rw[yhr hfit,hN.len,hosz]
    obtain⟨e1,he1,hd1⟩:=yap hd
    have hj:j<i.size:=by
     rw[← hosz,← hels e1 (List.mem_of_getElem? he1)]; exact(List.getElem?_eq_some_iff.1 hd1).1
    by_cases h6:i'<ob.els.length
    ·rw[yki h6]at hd
     have:(i'+1)*i.size≤ob.els.length*i.size:=Nat.mul_le_mul_right _ h6
     rw[Nat.add_mul,Nat.one_mul]at this
     rw[if_neg (by omega),← hosz]
     exact(hrep i' j d hd).2
    ·rw[List.getElem?_append_right (by omega)]at he1
     have h7:i' - ob.els.length<xs.length:=(List.getElem?_eq_some_iff.1 he1).1
     have h8:i'*i.size=ob.els.length*i.size+(i' - ob.els.length)*i.size:=by rw[← Nat.add_mul]; congr 1; omega
     have h9:(i' - ob.els.length+1)*i.size≤xs.length*i.size:=Nat.mul_le_mul_right _ h7
     rw[Nat.add_mul,Nat.one_mul]at h9
     rw[if_pos (by omega),show i'*i.size+j - ob.els.length*i.size=(i' - ob.els.length)*i.size+j by omega]
     exact hN.rep _ _ _ (ya5 he1 hd1)
  ·have hE:Els w g st (.slice (some ⟨g.β key,0,none⟩) ob.els.length (g.γ key)) i.size ob.els:=by
    refine⟨⟨_,_,rfl,fun _=>⟨_,_,rfl,h0,?_⟩⟩,fun i' j d hd=>(hrep i' j d hd).1 hrow,fun y hy=>by rw[← hosz]; exact hxx y hy⟩
    intro i' j d hd
    obtain⟨hp,u,h6,h7⟩:=hrep i' j d hd
    refine⟨u,?_,h7,h7.oneCell (yhx (hp hrow))⟩
    simp only[World.cell?,hb]
    rw[hosz]at h6
    simpa using h6
   obtain⟨os,hO⟩:=ysn (P:=P) hE
   have hgrow:=yQu (ty:=ty) ht htx hi hz hN hO rfl (by omega) (by omega) (yJl (by omega) hbytes)
   have hge:=grownCap_ge w (ob.els.length+xs.length) (g.γ key) e
   refine hfin w.heap.size _ (w.drew.alloc (.cells (os.toArray++ns.toArray++Builtin.zeroCells z.cells (grownCap w (ob.els.length+xs.length) (g.γ key) e - (ob.els.length+xs.length))) e)) _ e (.inr ⟨Nat.le_refl _,by simp; omega,hrow⟩) ⟨rfl,rfl,rfl,by simp⟩ ?_ (yl8 w _) (fun e1=>by have:=hS.lt ho; omega) ?_ (by simpa using hge) (grownCap_le_maxLen w _ _ e (by unfold maxLen; omega)) ?_ hgrow
   ·intro b hb' _; exact ynr w _ b hb'
   ·simp only[Array.size_append,List.size_toArray,hO.len,hN.len,size_zeroCells,hzs,hosz]
    rw[← Nat.add_mul,← Nat.add_mul]
    congr 1
    omega
   ·intro i' j d hd
    have:=yJk (zs:=(Builtin.zeroCells z.cells (grownCap w (ob.els.length+xs.length) (g.γ key) e - (ob.els.length+xs.length))).toList) hO.len hO.rep hN.rep hN.len i' j d hd
    rw[← hosz]at this
    obtain⟨u,h6,h7⟩:=this
    refine⟨u,?_,h7⟩
    rw[← Array.getElem?_toList]
    simpa using h6
 ·
  rename_i sz' els
  split at h
  ·rename_i he
   simp only[List.isEmpty_iff]at he
   subst he
   simp only[Ywh,Ywj]at h
   obtain⟨rfl,rfl⟩:=h
   refine .still hS ?_ hrs
   obtain⟨⟨a,cap,rfl,_⟩,_,_⟩:=yy7 hrs
   have hcap:els.length≤cap:=by
    cases hrs with
    |slcE=>simp
    |slc _ _ b off cap _ val h1 h2 h3 h3' h4=>exact h4
   have hns:ns=[]:=List.eq_nil_of_length_eq_zero (by simpa using hN.len)
   have h1:=hN.lenOf.1
   have h2:=hN.first.1
   subst hns
   simp only[List.length_nil]at h1 h2
   rcases htx with⟨e',hd⟩ | hd
   ·cases a <;> simp[Builtin.append_,run_underlying ht,sizeOf,typeInfo,hi,run_underlying hd,h1,hcap,h2,storeCells]
   ·cases a <;> simp[Builtin.append_,run_underlying ht,sizeOf,typeInfo,hi,run_underlying hd,h1,hcap,h2,storeCells]
  ·rename_i hne
   simp only[List.isEmpty_iff]at hne
   have hxpos:0<xs.length:=List.length_pos_iff.2 hne
   split at h
   case isFalse=>cases h
   rename_i hcond
   simp only[Bool.and_eq_true,decide_eq_true_eq,Bool.or_eq_true,beq_iff_eq,List.isEmpty_iff]at hcond
   obtain⟨⟨hse,hbytes⟩,hmax⟩:=hcond
   simp only[Ywh,Ywj]at h
   obtain⟨rfl,rfl⟩:=h
   have hE:=(yy7 hrs).cast hse
   obtain⟨os,hO⟩:=ysn (P:=P) hE
   obtain⟨⟨a,cap,rfl,_⟩,hEp,hEl⟩:=hE
   have hcap:cap=els.length:=by
    cases hrs with
    |slcE _ _ _ _ h1=>exact h1 rfl
    |slc _ _ b off cap _ val h1 h2 h3 h3' h4 h5=>exact h5 rfl
   subst hcap
   have hgrow:=yQu (ty:=ty) ht htx hi hz hN hO rfl (by omega) (by omega) (yJl (by omega) hbytes)
   have hge:=grownCap_ge w (els.length+xs.length) els.length e
   have hgo:=SR.push (o:={row:=true,sz:=i.size,els:=els++xs,lent:=false}) (c:=grownCap w (els.length+xs.length) els.length e) (w':=w.drew.alloc (.cells (os.toArray++ns.toArray++Builtin.zeroCells z.cells (grownCap w (els.length+xs.length) els.length e - (els.length+xs.length))) e)) hS
    ⟨rfl,rfl,rfl,by simp⟩ (fun b hb'=>ynr w _ b hb') (yl8 w _) rfl h0 (by
     intro y hy
     rcases List.mem_append.1 hy with hy | hy
     ·exact hEl y hy
     ·exact hxl' y hy) (by
     simp only[if_true,List.length_append]
     refine⟨?_,hge,grownCap_le_maxLen w _ _ e (by unfold maxLen; omega)⟩
     simp only[Array.size_append,List.size_toArray,hO.len,hN.len,size_zeroCells,hzs]
     rw[← Nat.add_mul,← Nat.add_mul]
     congr 1
     omega) (by
     intro i' j d hd
     refine⟨fun _=>?_,?_⟩
     ·by_cases h6:i'<els.length
      ·rw[yki h6]at hd
       exact hEp i' j d hd
      ·obtain⟨e1,he1,hd1⟩:=yap hd
       rw[List.getElem?_append_right (by omega)]at he1
       exact hxp _ _ _ (ya5 he1 hd1)
     ·obtain⟨u,h6,h7⟩:=yJk (zs:=(Builtin.zeroCells z.cells (grownCap w (els.length+xs.length) els.length e - (els.length+xs.length))).toList) hO.len hO.rep hN.rep hN.len i' j d hd
      refine⟨u,?_,h7⟩
      rw[← Array.getElem?_toList]
      simpa using h6)
   refine⟨_,_,_,hgrow,hgo,?_⟩
   refine .row _ _ _ _ {row:=true,sz:=i.size,els:=els++xs,lent:=false} _ rfl (by simp) rfl (by simp) fun _=>⟨?_,by omega⟩
   simp[ybn]
 ·cases h
theorem Ybs(hS:SR base w g st){src dst e:TypeId}{s:List UInt8}(hs:P.underlying src=some .string)(hd:P.underlying dst=some (.slice e))(he:P.underlying e=some (.int .u8)) :
  RunsTo P base w g st (convert src dst (.string ⟨s.toArray⟩)) (.slc 1 (s.map yaf) false) st:=by
 have hrun:=run_bytes_of_string (P:=P) w src dst e ⟨s.toArray⟩ hs hd he
 have hsz:ByteArray.size ⟨s.toArray⟩=s.length:=by simp[ByteArray.size]
 have hcap:=grownCap_ge w (ByteArray.size ⟨s.toArray⟩) 0 e
 generalize hC:bytesRow ⟨s.toArray⟩ (grownCap w (ByteArray.size ⟨s.toArray⟩) 0 e)=C at hrun
 have hgo:=hS.fresh (w':=w.drew.alloc (.cells C e (C.size,C.size+1))) (C:=C) (e:=e) (fz:=(C.size,C.size+1)) rfl ⟨rfl,rfl,rfl,by simp⟩
 refine⟨_,_,_,hrun,hgo,?_⟩
 rw[hsz]at hcap ⊢
 have hl:s.length=(s.map yaf).length:=by simp
 conv=>rhs; rw[hl]
 refine RepV.slc_mk Nat.one_pos (fun x hx=>by simp only[List.mem_map]at hx; obtain⟨b,_,rfl⟩:=hx; rfl) (by simpa using hcap) (fun h=>by cases h) ?_
 intro i j d hd'
 obtain⟨x,hx,hdj⟩:=yap hd'
 simp only[List.getElem?_map,Ywi]at hx
 obtain⟨b,hb,rfl⟩:=hx
 cases j with
 |succ j=>simp[yaf,D.cells]at hdj
 |zero=>
  simp only[yaf,D.cells,List.getElem?_cons_zero,Ywh]at hdj
  subst hdj
  have hi:i<s.length:=(List.getElem?_eq_some_iff.1 hb).1
  have hCi:C[i]?=some (.int .u8 b.toNat):=by
   rw[← hC]
   unfold bytesRow
   rw[Array.getElem?_append_left (by simp[hi])]
   simp[hb]
  have hlt:i<C.size:=(Array.getElem?_eq_some_iff.1 hCi).1
  refine⟨rfl,.inr ⟨rfl,by omega⟩,.int .u8 b.toNat,?_,.int _ _⟩
  have h2:(w.drew.alloc (.cells C e (C.size,C.size+1))).heap[w.heap.size]?=some (.cells C e (C.size,C.size+1)):=yl8 w _
  simp only[World.cell?,h2]
  simpa using hCi
end
end Go.Proofs.YtijnglngaogdjaaGreatDoor.PI
namespace Go.Proofs.YtijnglngaogdjaaGreatDoor.PI
open Go Go.RowKit
def yIz(lf:TypeId→Option (List Nat))(P:Program):List Field→Nat→Option (List Nat)
 |[],_=>some []
 |f::fs,off=>
  match lf f.type,agOf P f.type with
  |some l,some _=>
   if f.name≠ "_"∧f.offset=off∧szOf P f.type=some l.length∧0<l.length then(yIz lf P fs (off+l.length)).map (l++·)else none
  |_,_=>none
def ynx(P:Program):Nat→TypeId→Option (List Nat)
 |0,_=>none
 |d+1,t=>
  match P.underlying t with
  |some (.int _)=>some [0]
  |some .bool=>some [1]
  |some .string=>some [2]
  |some (.array n e)=>
   match ynx P d e with
   |some l=>if szOf P e=some l.length∧0<l.length then some (List.replicate n l).flatten else none
   |none=>none
  |some (.struct fs)=>if P.stoodInHeld t then none else yIz (ynx P d) P fs.toList 0
  |_=>none
section
variable {P:Program} {w:World} {g:Ghost} {st:St}
def mkv(ag:Bool)(vs:List Value):Value:=if ag then .agg vs.toArray else vs.headD undef
theorem yd9:∀ {ks:List Nat} {xs ys:List D} {b:Bool},ya0 ks xs ys=some b→xs.length=ks.length∧ys.length=ks.length
 |[],[],[],_,_=>⟨rfl,rfl⟩
 |q::qs,x::xs,y::ys,b,h=>by
  simp only[ya0]at h
  split at h
  ·rename_i a b' h1 h2
   have:=yd9 h2
   simp[this]
  ·cases h
 |[],[],_::_,_,h=>by simp[ya0]at h
 |[],_::_,_,_,h=>by simp[ya0]at h
 |_::_,[],_,_,h=>by simp[ya0]at h
 |_::_,_::_,[],_,h=>by simp[ya0]at h
theorem yn5:∀ {k1 k2:List Nat} {xs ys:List D} {b:Bool},ya0 (k1++k2) xs ys=some b→
  ∃ b1 b2,ya0 k1 (xs.take k1.length) (ys.take k1.length)=some b1∧ya0 k2 (xs.drop k1.length) (ys.drop k1.length)=some b2∧b=(b1 && b2)
 |[],k2,xs,ys,b,h=>⟨true,b,by simp[ya0],by simpa using h,by simp⟩
 |q::k1,k2,x::xs,y::ys,b,h=>by
  simp only[List.cons_append,ya0]at h
  split at h
  ·rename_i a b' h1 h2
   simp only[Ywh]at h
   obtain⟨b1,b2,h3,h4,h5⟩:=yn5 h2
   refine⟨a && b1,b2,by simp[ya0,h1,h3],by simpa using h4,by rw[← h,h5,Bool.and_assoc]⟩
  ·cases h
 |_::_,_,[],_,_,h=>by simp[ya0]at h
 |_::_,_,_::_,[],_,h=>by simp[ya0]at h
def EqR(P:Program)(dd:Nat)(t:TypeId)(ks:List Nat):Prop:=
 ∀ (w:World) (g:Ghost) (st:St) (ag:Bool) (xs ys:List D) (vs us:List Value) (b:Bool),agOf P t=some ag→ya0 ks xs ys=some b→xs.length=vs.length→ys.length=us.length→
  (∀ (i:Nat) d v,xs[i]?=some d→vs[i]?=some v→RepV w g st d v)→(∀ (i:Nat) d v,ys[i]?=some d→us[i]?=some v→RepV w g st d v)→
  (Op.equalIn dd t (mkv ag vs) (mkv ag us)).run P w=.ok b w
theorem yuh{t:TypeId}{n off:Nat}{ag:Bool}{vs:List Value}(ha:agOf P t=some ag)(hn:szOf P t=some n)(hag:ag=false→n=1)(hle:off+n≤vs.length) :
  (part t vs.toArray off).run P w=.ok (mkv ag ((vs.drop off).take n)) w:=by
 cases ag with
 |true=>
  simp[part,ymt ha,ycz hn,mkv]
 |false=>
  obtain rfl:=hag rfl
  have h2:off<vs.length:=by omega
  simp[part,ymt ha,h2,mkv,List.take_one,List.head?_drop]
theorem yIy{d:Nat}{t:TypeId}{ks:List Nat}(h:ynx P d t=some ks)(ha:agOf P t=some false):ks.length=1:=by
 cases d with
 |zero=>cases h
 |succ d=>
  unfold ynx at h
  unfold agOf at ha
  cases hu:P.underlying t with
  |none=>simp[hu]at ha
  |some u=>
   cases u <;> simp[hu]at ha h <;> (subst h; rfl)
theorem ylb{α:Type}{l:List α}{off n i:Nat}{x:α}(h:((l.drop off).take n)[i]?=some x):l[off+i]?=some x:=by
 rw[List.getElem?_take]at h
 split at h
 ·rw[List.getElem?_drop]at h; exact h
 ·cases h
theorem yw1(d dd:Nat)(hrec:∀ t ks,ynx P d t=some ks→EqR P dd t ks):∀ (fs:List Field) (off:Nat) (ks:List Nat) (w:World) (g:Ghost) (st:St) (xs ys:List D) (vs us:List Value) (b:Bool),
  yIz (ynx P d) P fs off=some ks→ya0 ks (xs.drop off) (ys.drop off)=some b→xs.length=vs.length→ys.length=us.length→
  (∀ (i:Nat) d v,xs[i]?=some d→vs[i]?=some v→RepV w g st d v)→(∀ (i:Nat) d v,ys[i]?=some d→us[i]?=some v→RepV w g st d v)→
  (Op.eqFields dd vs.toArray us.toArray fs).run P w=.ok b w
 |[],off,ks,w,g,st,xs,ys,vs,us,b,h,he,hx,hy,rx,ry=>by
  simp[yIz]at h; subst h
  have:=yd9 he
  match hxx:xs.drop off,hyy:ys.drop off with
  |[],[]=>rw[hxx,hyy]at he; simp[ya0]at he; subst he; simp[Op.eqFields]
  |_::_,_=>rw[hxx]at this; simp at this
  |[],_::_=>rw[hyy]at this; simp at this
 |f::fs,off,ks,w,g,st,xs,ys,vs,us,b,h,he,hx,hy,rx,ry=>by
  unfold yIz at h
  split at h
  ·rename_i l ag hl hag
   split at h
   ·rename_i hc
    obtain⟨hname,hoff,hsz,hpos⟩:=hc
    simp only[Ywi]at h
    obtain⟨ks',hks,rfl⟩:=h
    obtain⟨b1,b2,h1,h2,rfl⟩:=yn5 he
    have hlen:=yd9 he
    simp only[List.length_drop,List.length_append]at hlen
    rw[List.drop_drop,List.drop_drop]at h2
    have hone:ag=false→l.length=1:=fun e=>yIy hl (by rw[hag,e])
    have p1:=yuh (P:=P) (w:=w) (off:=off) hag hsz hone (vs:=vs) (by omega)
    have p2:=yuh (P:=P) (w:=w) (off:=off) hag hsz hone (vs:=us) (by omega)
    have e1:=hrec f.type l hl w g st ag _ _ ((vs.drop off).take l.length) ((us.drop off).take l.length) b1 hag h1 (by simp[hx]) (by simp[hy])
     (fun i d v hd hv=>rx _ d v (ylb hd) (ylb hv)) (fun i d v hd hv=>ry _ d v (ylb hd) (ylb hv))
    have ih:=yw1 d dd hrec fs (off+l.length) ks' w g st xs ys vs us b2 hks h2 hx hy rx ry
    simp only[Op.eqFields,hname,ne_eq,not_false_eq_true,if_true,Sem.run_bind,hoff,p1,p2,e1,Result.andThen_ok]
    cases b1
    ·simp
    ·simpa using ih
   ·cases h
  ·cases h
theorem ypc(n:Nat)(l:List Nat):(List.replicate (n+1) l).flatten=l++(List.replicate n l).flatten:=by
 simp[List.replicate_succ]
theorem yAr(dd:Nat){e:TypeId}{l:List Nat}{ag:Bool}(hrec:EqR P dd e l)(hag:agOf P e=some ag)(hsz:szOf P e=some l.length)(hpos:0<l.length)(hone:ag=false→l.length=1):∀ (n k:Nat) (w:World) (g:Ghost) (st:St) (xs ys:List D) (vs us:List Value) (b:Bool),
  ya0 (List.replicate n l).flatten (xs.drop (k*l.length)) (ys.drop (k*l.length))=some b→xs.length=vs.length→ys.length=us.length→
  (∀ (i:Nat) d v,xs[i]?=some d→vs[i]?=some v→RepV w g st d v)→(∀ (i:Nat) d v,ys[i]?=some d→us[i]?=some v→RepV w g st d v)→
  (Op.eqItems dd e l.length vs.toArray us.toArray (List.range' k n)).run P w=.ok b w
 |0,k,w,g,st,xs,ys,vs,us,b,he,hx,hy,rx,ry=>by
  simp only[List.replicate_zero,List.flatten_nil]at he
  have:=yd9 he
  match hxx:xs.drop (k*l.length),hyy:ys.drop (k*l.length)with
  |[],[]=>rw[hxx,hyy]at he; simp[ya0]at he; subst he; simp[Op.eqItems]
  |_::_,_=>rw[hxx]at this; simp at this
  |[],_::_=>rw[hyy]at this; simp at this
 |n+1,k,w,g,st,xs,ys,vs,us,b,he,hx,hy,rx,ry=>by
  rw[ypc]at he
  obtain⟨b1,b2,h1,h2,rfl⟩:=yn5 he
  have hlen:=yd9 he
  simp only[List.length_drop,List.length_append]at hlen
  rw[List.drop_drop,List.drop_drop]at h2
  have p1:=yuh (P:=P) (w:=w) (off:=k*l.length) hag hsz hone (vs:=vs) (by omega)
  have p2:=yuh (P:=P) (w:=w) (off:=k*l.length) hag hsz hone (vs:=us) (by omega)
  have e1:=hrec w g st ag _ _ ((vs.drop (k*l.length)).take l.length) ((us.drop (k*l.length)).take l.length) b1 hag h1 (by simp[hx]) (by simp[hy])
   (fun i d v hd hv=>rx _ d v (ylb hd) (ylb hv)) (fun i d v hd hv=>ry _ d v (ylb hd) (ylb hv))
  have ek:(k+1)*l.length=k*l.length+l.length:=by rw[Nat.add_mul,Nat.one_mul]
  have ih:=yAr dd hrec hag hsz hpos hone n (k+1) w g st xs ys vs us b2 (by rw[ek]; exact h2) hx hy rx ry
  simp only[List.range'_succ,Op.eqItems,Sem.run_bind,p1,p2,e1,Result.andThen_ok]
  cases b1
  ·simp
  ·simpa using ih
theorem yFo:∀ (d:Nat) (t:TypeId) (ks:List Nat),ynx P d t=some ks→∀ dd,d≤dd→EqR P dd t ks
 |0,_,_,h,_,_=>by cases h
 |d+1,t,ks,h,dd,hdd=>by
  intro w g st ag xs ys vs us b ha he hx hy rx ry
  obtain⟨dd,rfl⟩:∃ e,dd=e+1:=⟨dd - 1,by omega⟩
  unfold ynx at h
  unfold agOf at ha
  have hrec:∀ t ks,ynx P d t=some ks→EqR P dd t ks:=fun t ks h=>yFo d t ks h dd (by omega)
  have single:∀ q,ks=[q]→∃ x y v u,xs=[x]∧ys=[y]∧vs=[v]∧us=[u]∧ydk q x y=some b∧RepV w g st x v∧RepV w g st y u:=by
   intro q hq
   subst hq
   have hl:=yd9 he
   match xs,ys,vs,us,hx,hy,hl with
   |[x],[y],[v],[u],_,_,_=>
    simp only[ya0]at he
    split at he
    ·rename_i a b' h1 h2
     simp only[Ywh]at h2 he
     subst h2; subst he
     exact⟨x,y,v,u,rfl,rfl,rfl,rfl,by simpa using h1,rx 0 x v rfl rfl,ry 0 y u rfl rfl⟩
    ·cases he
  cases hu:P.underlying t with
  |none=>simp[hu]at ha
  |some k=>
   cases k with
   |int k=>
    simp only[hu,Ywh]at h ha
    subst ha
    obtain⟨x,y,v,u,rfl,rfl,rfl,rfl,h1,r1,r2⟩:=single 0 h.symm
    unfold ydk at h1
    split at h1 <;> simp_all
    obtain rfl:=ydt r1
    obtain rfl:=ydt r2
    simp only[mkv,Bool.false_eq_true,if_false,List.headD_cons]
    rw[run_equalIn_int w dd t _ k _ _ hu]
    simp_all
   |bool=>
    simp only[hu,Ywh]at h ha
    subst ha
    obtain⟨x,y,v,u,rfl,rfl,rfl,rfl,h1,r1,r2⟩:=single 1 h.symm
    unfold ydk at h1
    split at h1 <;> simp_all
    obtain rfl:=yfl r1
    obtain rfl:=yfl r2
    simp only[mkv,Bool.false_eq_true,if_false,List.headD_cons]
    rw[run_equalIn_bool w dd t _ _ hu]
    simp_all
   |string=>
    simp only[hu,Ywh]at h ha
    subst ha
    obtain⟨x,y,v,u,rfl,rfl,rfl,rfl,h1,r1,r2⟩:=single 2 h.symm
    unfold ydk at h1
    split at h1 <;> simp_all
    obtain rfl:=yi0 r1
    obtain rfl:=yi0 r2
    simp only[mkv,Bool.false_eq_true,if_false,List.headD_cons]
    rw[run_equalIn_string w dd t _ _ hu,yyw,yyw]
    simp_all
   |array n e=>
    simp only[hu,Ywh]at h ha
    subst ha
    split at h
    ·rename_i l hl
     split at h
     ·rename_i hc
      simp only[Ywh]at h; subst h
      obtain⟨hsz,hpos⟩:=hc
      have hi:∃ i,P.info? e=some i:=by
       unfold szOf at hsz
       cases hi:P.info? e with
       |none=>simp[hi]at hsz
       |some i=>exact⟨i,rfl⟩
      obtain⟨i,hi⟩:=hi
      have hcells:P.cellsOf e=l.length:=by
       unfold szOf at hsz
       unfold Program.cellsOf
       rw[hsz]; rfl
      have hag:∃ ag,agOf P e=some ag:=by
       cases d with
       |zero=>cases hl
       |succ d=>
        unfold ynx at hl
        unfold agOf
        cases hu':P.underlying e with
        |none=>simp[hu']at hl
        |some q=>cases q <;> simp
      obtain⟨ag,hag⟩:=hag
      have hone:ag=false→l.length=1:=fun e'=>yIy hl (by rw[hag,e'])
      have:=yAr dd (hrec e l hl) hag hsz hpos hone n 0 w g st xs ys vs us b (by simpa using he) hx hy rx ry
      simp only[mkv,if_true]
      rw[run_equalIn_array w dd _ _ hu hi,hcells,List.range_eq_range']
      exact this
     ·cases h
    ·cases h
   |struct fs=>
    simp only[hu,Ywh]at h ha
    subst ha
    split at h
    ·cases h
    ·rename_i hst
     have hf:P.fieldsOf t=fs:=by simp[Program.fieldsOf,hu]
     have:=yw1 d dd hrec fs.toList 0 ks w g st xs ys vs us b h (by simpa using he) hx hy rx ry
     simp only[mkv,if_true]
     rw[run_equalIn_struct w dd t _ _ (by rw[hf]; exact hu) (by simpa using hst),hf]
     exact this
   |_=>simp[hu]at h
theorem Ye1{t:TypeId}{d:Nat}{ks:List Nat}{neg:Bool}{x y r:D}{vx vy:Value}(hl:ynx P d t=some ks)(hd:d≤10000)(ha:agOf P t=some true)(h:paeq ks neg x y=some r)(hx:RepV w g st x vx)(hy:RepV w g st y vy) :
  (∃ v,(binOp (if neg then .neq else .eql) t vx vy).run P w=.ok v w∧RepV w g st r v)∧∃ xs ys,vx=.agg xs∧vy=.agg ys:=by
 unfold paeq at h
 split at h
 ·rename_i xs ys
  simp only[Ywi]at h
  obtain⟨b,hb,rfl⟩:=h
  cases hx with
  |agg _ vs h1 h2=>
   cases hy with
   |agg _ us h3 h4=>
    refine⟨?_,_,_,rfl,rfl⟩
    have e:(Op.equal t (.agg vs.toArray) (.agg us.toArray)).run P w=.ok b w:=yFo d t ks hl 10000 hd w g st true xs ys vs us b ha hb h1 h3 h2 h4
    refine⟨.bool (b != neg),?_,.bool _⟩
    cases neg <;> simp[binOp,e]
 ·cases h
end
end Go.Proofs.YtijnglngaogdjaaGreatDoor.PI
namespace Go.Proofs.YtijnglngaogdjaaGreatDoor.PI
open Go Go.RowKit
def yBu(P:Program)(kt:TypeId):Option (Nat×List Nat):=
 match P.underlying kt with
 |some (.int _)=>some (2,[0])
 |some .bool=>some (2,[1])
 |some .string=>some (2,[2])
 |some (.array n e)=>match P.underlying e,szOf P e with
  |some (.int _),some 1=>if 2≤n then some (n+1,List.replicate n 0)else none
  |_,_=>none
 |_=>none
def yMj(P:Program)(t:TypeId):Option (TypeId×TypeId×Nat×List Nat):=
 match P.underlying t with
 |some (.map kt et)=>match yBu P kt,szOf P et,agOf P et with
  |some (sz,ks),some 1,some false=>if sz=1000003 then none else some (kt,et,sz,ks)
  |_,_,_=>none
 |_=>none
theorem yIq{P:Program}{t kt et:TypeId}{sz:Nat}{ks:List Nat}(h:yMj P t=some (kt,et,sz,ks)):P.underlying t=some (.map kt et)∧yBu P kt=some (sz,ks)∧sz≠1000003∧szOf P et=some 1∧agOf P et=some false:=by
 unfold yMj at h
 split at h
 case h_2=>cases h
 rename_i kt' et' hu
 split at h
 case h_2=>cases h
 rename_i sz' ks' h1 h2 h3
 split at h
 case isTrue=>cases h
 rename_i hne
 simp only[Ywh,Ywj]at h
 obtain⟨rfl,rfl,rfl,rfl⟩:=h
 exact⟨hu,h1,hne,h2,h3⟩
section
variable {P:Program} {base:Nat} {w:World} {g:Ghost} {st:St}
theorem ywy{q:Nat}{x y:D}(h:ydk q x y=some true):x=y:=by
 unfold ydk at h
 split at h
 ·rename_i k a k' b
  split at h
  ·rename_i e
   simp only[Ywh,beq_iff_eq]at h
   rw[e,h]
  ·cases h
 ·simp only[Ywh,beq_iff_eq]at h; rw[h]
 ·simp only[Ywh,beq_iff_eq]at h; rw[h]
 ·cases h
def yHu:D→Bool
 |.int _ _ | .bool _ | .str _=>true
 |_=>false
theorem ylc{q:Nat}{x y:D}{b:Bool}(h:ydk q x y=some b):yHu x=true∧yHu y=true:=by
 unfold ydk at h
 split at h
 ·exact⟨rfl,rfl⟩
 ·exact⟨rfl,rfl⟩
 ·exact⟨rfl,rfl⟩
 ·cases h
theorem yAi:∀ {ks:List Nat} {xs ys:List D},ya0 ks xs ys=some true→xs=ys
 |[],[],[],_=>rfl
 |q::qs,x::xs,y::ys,h=>by
  simp only[ya0]at h
  split at h
  ·rename_i a b h1 h2
   simp only[Ywh,Bool.and_eq_true]at h
   obtain⟨rfl,rfl⟩:=h
   rw[ywy h1,yAi h2]
  ·cases h
 |[],[],_::_,h=>by simp[ya0]at h
 |[],_::_,_,h=>by simp[ya0]at h
 |_::_,[],_,h=>by simp[ya0]at h
 |_::_,_::_,[],h=>by simp[ya0]at h
theorem ysv:∀ {ks:List Nat} {xs ys:List D} {b:Bool},ya0 ks xs ys=some b→∀ x∈xs,yHu x=true
 |[],[],[],_,_=>fun x hx=>by cases hx
 |q::qs,x::xs,y::ys,b,h=>by
  simp only[ya0]at h
  split at h
  ·rename_i a b h1 h2
   intro z hz
   rcases List.mem_cons.1 hz with rfl | hz
   ·exact(ylc h1).1
   ·exact ysv h2 z hz
  ·cases h
 |[],[],_::_,_,h=>by simp[ya0]at h
 |[],_::_,_,_,h=>by simp[ya0]at h
 |_::_,[],_,_,h=>by simp[ya0]at h
 |_::_,_::_,[],_,h=>by simp[ya0]at h
theorem yCc{d:D}{v u:Value}(hd:yHu d=true)(h:RepV w g st d v)(h2:RepV w g st d u):v=u:=by
 cases h <;> cases h2 <;> first | rfl | (simp[yHu]at hd; done)
theorem yS4{sz:Nat}{ks:List Nat}{x y:D}{vx vy:Value}(h:yka sz ks x y=some true)(hx:RepV w g st x vx)(hy:RepV w g st y vy):vx=vy:=by
 unfold yka at h
 split at h
 ·split at h
  ·obtain rfl:=ywy h
   exact yCc (ylc h).1 hx hy
  ·cases h
 ·split at h
  ·rename_i xs ys
   have hs:=ysv h
   obtain rfl:=yAi h
   cases hx with
   |agg _ vs h1 h2=>
    cases hy with
    |agg _ us h3 h4=>
     have:vs=us:=by
      apply List.ext_getElem?
      intro i
      cases hv:vs[i]? with
      |none=>rw[List.getElem?_eq_none_iff]at hv; exact(List.getElem?_eq_none_iff.2 (by omega)).symm
      |some v=>
       have hil:=(List.getElem?_eq_some_iff.1 hv).1
       have hd:xs[i]?=some xs[i]:=List.getElem?_eq_getElem (by omega)
       have hu:us[i]?=some us[i]:=List.getElem?_eq_getElem (by omega)
       rw[hu,yCc (hs _ (List.mem_of_getElem? hd)) (h2 i _ v hd hv) (h4 i _ _ hd hu)]
     rw[this]
  ·cases h
theorem yub{d:D}{v:Value}(hd:yHu d=true)(h:RepV w g st d v)(n:Nat):Instr.sameBits n v v=true:=by
 cases h <;> first
  |(simp[Instr.sameBits]; done)
  |(simp[yHu]at hd; done)
  |(unfold Instr.sameBits; exact(MapKept.bytes_beq _ _).2 rfl)
theorem yMt{sz:Nat}{ks:List Nat}{x y:D}{b:Bool}{vx:Value}(h:yka sz ks x y=some b)(hx:RepV w g st x vx):Instr.sameBits 10000 vx vx=true:=by
 unfold yka at h
 split at h
 ·split at h
  ·exact yub (ylc h).1 hx _
  ·cases h
 ·split at h
  ·rename_i xs ys
   have hs:=ysv h
   cases hx with
   |agg _ vs h1 h2=>
    show(vs.toArray.size == vs.toArray.size && (vs.toArray.toList.zip vs.toArray.toList).all fun(x,y)=>Instr.sameBits 9999 x y)=true
    rw[Bool.and_eq_true]
    refine⟨by simp,?_⟩
    rw[List.all_eq_true]
    rintro⟨u,u'⟩ hu
    have hu':u=u':=by
     have:=List.mem_iff_getElem?.1 hu
     obtain⟨i,hi⟩:=this
     rw[List.getElem?_zip_eq_some]at hi
     exact Option.some.inj (hi.1.symm.trans hi.2)
    subst hu'
    have hm:u∈vs:=(List.of_mem_zip hu).1
    obtain⟨i,hi⟩:=List.mem_iff_getElem?.1 hm
    have hil:=(List.getElem?_eq_some_iff.1 hi).1
    have hd:xs[i]?=some xs[i]:=List.getElem?_eq_getElem (by omega)
    exact yub (hs _ (List.mem_of_getElem? hd)) (h2 i _ u hd hi) _
  ·cases h
theorem yI5{sz:Nat}{ks:List Nat}{x y:D}{b:Bool}{vx:Value}(h:yka sz ks x y=some b)(hx:RepV w g st x vx)(w1:World):(Instr.keyThatStays vx vx).run P w1=.ok vx w1:=by
 simp[Instr.keyThatStays,yMt h hx]
theorem yw4{e:TypeId}{kk:IntKind}(hu:P.underlying e=some (.int kk))(em:Bool)(n:Nat)(v:Value):(Instr.checkKey em (n+1) e v).run P w=.ok () w:=by
 unfold Instr.checkKey
 simp only[Sem.run_bind,run_underlying hu,Result.andThen]
 rfl
theorem yqb{kt:TypeId}{sz:Nat}{ks:List Nat}{x y:D}{b:Bool}{v:Value}(hk:yBu P kt=some (sz,ks))(h:yka sz ks x y=some b)(hr:RepV w g st x v)(em:Bool):(Instr.checkKey em 10000 kt v).run P w=.ok () w:=by
 unfold yBu at hk
 split at hk
 ·rename_i hu
  exact yw4 hu em 9999 v
 ·rename_i hu
  unfold Instr.checkKey
  simp only[Sem.run_bind,run_underlying hu,Result.andThen]
  rfl
 ·rename_i hu
  unfold Instr.checkKey
  simp only[Sem.run_bind,run_underlying hu,Result.andThen]
  rfl
 ·rename_i n e hu
  split at hk
  ·rename_i kk hue hse
   split at hk
   ·rename_i h2
    simp only[Ywh,Ywj]at hk
    obtain⟨rfl,rfl⟩:=hk
    unfold yka at h
    rw[if_neg (by omega)]at h
    split at h
    ·rename_i xs ys
     have hl:=(yd9 h).1
     rw[List.length_replicate]at hl
     cases hr with
     |agg _ vs h3 h4=>
      have hag:agOf P e=some false:=by unfold agOf; rw[hue]
      unfold Instr.checkKey
      simp only[Sem.run_bind,run_underlying hu,Result.andThen_ok]
      simp only[Std.Legacy.Range.forIn_eq_forIn_range',Std.Legacy.Range.size,Nat.sub_zero,Nat.add_one_sub_one,Nat.div_one]
      have each:∀ i∈List.range' 0 n,i<vs.length:=fun i hi=>by rw[List.mem_range'_1]at hi; omega
      generalize List.range' 0 n=is at each
      refine(?_:((forIn is PUnit.unit fun i __s=>do
       let __do_lift ← sizeOf e
       let __do_lift ← part e vs.toArray (i*__do_lift)
       Instr.checkKey em 9999 e __do_lift
       pure (ForInStep.yield PUnit.unit):Sem PUnit).run P w).andThen _=_)
      induction is with
      |nil=>simp
      |cons j is ih=>
       have hj:=each j (by simp)
       have p1:=yuh (P:=P) (w:=w) (vs:=vs) (off:=j*1) hag hse (fun _=>rfl) (by omega)
       simp only[List.forIn_cons,Sem.run_bind,ycz hse,Result.andThen_ok,p1,yw4 hue,Sem.run_pure]
       exact ih (fun y hy=>each y (by simp[hy]))
    ·cases h
   ·cases hk
  ·cases hk
 ·cases hk
theorem yza{desc:TypeDesc}{q:Nat}{x y:D}{b:Bool}{vx vy:Value}(hd:(∃ kk,desc=.int kk∧q=0)∨(desc=.bool∧q=1)∨(desc=.string∧q=2))(h:ydk q x y=some b)(hx:RepV w g st x vx)(hy:RepV w g st y vy):Instr.sameNow desc vx vy=some b:=by
 rcases hd with⟨kk,rfl,rfl⟩ | ⟨rfl,rfl⟩ | ⟨rfl,rfl⟩
 ·unfold ydk at h
  split at h <;> simp_all
  obtain rfl:=ydt hx
  obtain rfl:=ydt hy
  simp_all [Instr.sameNow]
 ·unfold ydk at h
  split at h <;> simp_all
  obtain rfl:=yfl hx
  obtain rfl:=yfl hy
  simp_all [Instr.sameNow]
 ·unfold ydk at h
  split at h <;> simp_all
  obtain rfl:=yi0 hx
  obtain rfl:=yi0 hy
  simp only[Instr.sameNow,Ywh]
  rw[← h,Bool.eq_iff_iff,MapKept.bytes_beq]
  simp
def Ents(w:World)(g:Ghost)(st:St)(sz:Nat)(els:List D)(es:List MapEntry):Prop:=
 es.length=els.length∧∀ (i:Nat) (e:MapEntry) (el:D),es[i]?=some e→els[i]?=some el→RepV w g st (entK sz el) e.key∧RepV w g st (entV sz el) e.val
theorem Ents.tail{sz:Nat}{el:D}{els:List D}{e:MapEntry}{es:List MapEntry}(h:Ents w g st sz (el::els) (e::es)):Ents w g st sz els es:=
 ⟨by have:=h.1; simp only[List.length_cons]at this; omega,fun i e' el' h1 h2=>h.2 (i+1) e' el' (by simpa using h1) (by simpa using h2)⟩
theorem yAl{desc:TypeDesc}{q:Nat}{k:D}{kv:Value}(hd:(∃ kk,desc=.int kk∧q=0)∨(desc=.bool∧q=1)∨(desc=.string∧q=2))(hk:RepV w g st k kv):∀ (els:List D) (es:List MapEntry) (i:Nat) (r:Option Nat),Ents w g st 2 els es→yul 2 [q] k els i=some r→
  (r=none∧Instr.findNow desc kv es i=some none)∨∃ j e,r=some (i+j)∧es[j]?=some e∧Instr.findNow desc kv es i=some (some (i+j,e.val))∧∃ el,els[j]?=some el∧yka 2 [q] k (entK 2 el)=some true
 |[],es,i,r,h,hm=>by
  obtain rfl:es=[]:=List.eq_nil_of_length_eq_zero h.1
  simp only[yul,Ywh]at hm
  exact .inl ⟨hm.symm,rfl⟩
 |el::els,[],i,r,h,hm=>by have:=h.1; simp at this
 |el::els,e::es,i,r,h,hm=>by
  have h0:=(h.2 0 e el rfl rfl).1
  simp only[yul]at hm
  split at hm
  ·rename_i hq
   simp only[Ywh]at hm
   subst hm
   have hs:=yza hd (show ydk q k (entK 2 el)=some true from hq) hk h0
   exact .inr ⟨0,e,rfl,rfl,by simp only[Instr.findNow,hs,Nat.add_zero],el,rfl,hq⟩
  ·rename_i hq
   have hs:=yza hd (show ydk q k (entK 2 el)=some false from hq) hk h0
   rcases yAl hd hk els es (i+1) r h.tail hm with⟨h1,h2⟩ | ⟨j,e',h1,h2,h3,el',h4,h5⟩
   ·exact .inl ⟨h1,by simp only[Instr.findNow,hs,h2]⟩
   ·refine .inr ⟨j+1,e',by rw[h1]; congr 1; omega,by simpa using h2,?_,el',by simpa using h4,h5⟩
    simp only[Instr.findNow,hs,h3]
    congr 3; omega
  ·cases hm
theorem yrx{kt:TypeId}{sz:Nat}{ks:List Nat}{k:D}{kv:Value}(hsz:sz≠2)(hl:ynx P 100 kt=some ks)(ha:agOf P kt=some true)(hk:RepV w g st k kv):∀ (els:List D) (es:List MapEntry) (i:Nat) (r:Option Nat),Ents w g st sz els es→yul sz ks k els i=some r→
  (r=none∧(Instr.findAsking kt kv es i).run P w=.ok none w)∨∃ j e,r=some (i+j)∧es[j]?=some e∧(Instr.findAsking kt kv es i).run P w=.ok (some (i+j,e.val)) w∧∃ el,els[j]?=some el∧yka sz ks k (entK sz el)=some true
 |[],es,i,r,h,hm=>by
  obtain rfl:es=[]:=List.eq_nil_of_length_eq_zero h.1
  simp only[yul,Ywh]at hm
  exact .inl ⟨hm.symm,rfl⟩
 |el::els,[],i,r,h,hm=>by have:=h.1; simp at this
 |el::els,e::es,i,r,h,hm=>by
  have h0:=(h.2 0 e el rfl rfl).1
  have he:∀ b,yka sz ks k (entK sz el)=some b→(Op.equal kt kv e.key).run P w=.ok b w:=fun b hb=>by
   unfold yka at hb
   rw[if_neg hsz]at hb
   split at hb
   ·rename_i xs ys hky
    rw[hky]at h0
    cases hk with
    |agg _ vs h1 h2=>
     generalize e.key=ek at h0
     cases h0 with
     |agg _ us h3 h4=>exact yFo 100 kt ks hl 10000 (by omega) w g st true xs ys vs us b ha hb h1 h3 h2 h4
   ·cases hb
  simp only[yul]at hm
  split at hm
  ·rename_i hq
   simp only[Ywh]at hm
   subst hm
   exact .inr ⟨0,e,rfl,rfl,by simp[Instr.findAsking,he true hq],el,rfl,hq⟩
  ·rename_i hq
   rcases yrx hsz hl ha hk els es (i+1) r h.tail hm with⟨h1,h2⟩ | ⟨j,e',h1,h2,h3,el',h4,h5⟩
   ·exact .inl ⟨h1,by simp[Instr.findAsking,he false hq,h2]⟩
   ·refine .inr ⟨j+1,e',by rw[h1]; congr 1; omega,by simpa using h2,?_,el',by simpa using h4,h5⟩
    simp[Instr.findAsking,he false hq,h3]
    omega
  ·cases hm
theorem yMq{kt e:TypeId}{n:Nat}{kk:IntKind}(hu:P.underlying kt=some (.array n e))(hue:P.underlying e=some (.int kk))(hse:szOf P e=some 1):ynx P 100 kt=some (List.replicate n 0):=by
 have h1:ynx P 99 e=some [0]:=by unfold ynx; rw[hue]
 unfold ynx
 rw[hu]
 simp only[h1,hse]
 simp
theorem yn6{kt:TypeId}{sz:Nat}{ks:List Nat}{k:D}{kv:Value}{els:List D}{es:List MapEntry}{r:Option Nat}(hkt:yBu P kt=some (sz,ks))(hk:RepV w g st k kv)(hE:Ents w g st sz els es)(hm:yul sz ks k els 0=some r) :
  (r=none∧(Instr.findKey kt kv es).run P w=.ok none w)∨∃ j e,r=some j∧es[j]?=some e∧(Instr.findKey kt kv es).run P w=.ok (some (j,e.val)) w∧∃ el,els[j]?=some el∧yka sz ks k (entK sz el)=some true:=by
 have one:∀ (desc:TypeDesc) (q:Nat),P.underlying kt=some desc→(sz,ks)=(2,[q])→((∃ kk,desc=.int kk∧q=0)∨(desc=.bool∧q=1)∨(desc=.string∧q=2))→
   (r=none∧(Instr.findKey kt kv es).run P w=.ok none w)∨∃ j e,r=some j∧es[j]?=some e∧(Instr.findKey kt kv es).run P w=.ok (some (j,e.val)) w∧∃ el,els[j]?=some el∧yka sz ks k (entK sz el)=some true:=by
  intro desc q hu he hd
  simp only[Ywj]at he
  obtain⟨rfl,rfl⟩:=he
  rcases yAl hd hk els es 0 r hE hm with⟨h1,h2⟩ | ⟨j,e,h1,h2,h3,h4⟩
  ·exact .inl ⟨h1,MapKept.run_findKey hu h2⟩
  ·rw[Nat.zero_add]at h1 h3
   exact .inr ⟨j,e,h1,h2,MapKept.run_findKey hu h3,h4⟩
 unfold yBu at hkt
 split at hkt
 ·rename_i kk hu
  exact one _ 0 hu (Option.some.inj hkt).symm (.inl ⟨kk,rfl,rfl⟩)
 ·rename_i hu
  exact one _ 1 hu (Option.some.inj hkt).symm (.inr (.inl ⟨rfl,rfl⟩))
 ·rename_i hu
  exact one _ 2 hu (Option.some.inj hkt).symm (.inr (.inr ⟨rfl,rfl⟩))
 ·rename_i n e hu
  split at hkt
  ·rename_i kk hue hse
   split at hkt
   ·rename_i h2
    simp only[Ywh,Ywj]at hkt
    obtain⟨rfl,rfl⟩:=hkt
    have ha:agOf P kt=some true:=by unfold agOf; rw[hu]
    have h3:=yrx (by omega) (yMq hu hue hse) ha hk els es 0 r hE hm
    have h4:(Instr.findKey kt kv es).run P w=(Instr.findAsking kt kv es 0).run P w:=by
     cases es with
     |nil=>simp[Instr.findKey,run_underlying hu,Instr.findNow,Instr.findAsking]
     |cons e0 es=>
      have:Instr.findNow (.array n e) kv (e0::es) 0=none:=by
       simp only[Instr.findNow]
       have:Instr.sameNow (.array n e) kv e0.key=none:=by
        unfold Instr.sameNow
        rfl
       rw[this]
      simp[Instr.findKey,run_underlying hu,this]
    rw[h4]
    rcases h3 with h3 | ⟨j,e,h5,h6,h7,h8⟩
    ·exact .inl h3
    ·rw[Nat.zero_add]at h5 h7
     exact .inr ⟨j,e,h5,h6,h7,h8⟩
   ·cases hkt
  ·cases hkt
 ·cases hkt
theorem yX1(hS:SR base w g st){t:TypeId}{sz:Nat}(h:1<sz)(hns:sz≠1000003):RunsTo P base w g st (Instr.makeMap t none) (.mapv st.length) (st++[{row:=false,sz,els:=[],lent:=false}]):=by
 have hm:({row:=false,sz,els:=[],lent:=false}:Obj).isMap=true:=by simp[Obj.isMap,h]
 have hgo:=SR.pushMap (w':=w.alloc (.map #[] 0)) (o:={row:=false,sz,els:=[],lent:=false}) (clock:=0) hS ⟨rfl,rfl,rfl,by simp⟩ (fun b hb=>ynr w _ b hb) (MapKept.heap_alloc w _).1 hm hns rfl
 refine⟨.map (some w.heap.size),_,_,rfl,hgo,?_⟩
 have:=RepV.mapv (w:=w.alloc (.map #[] 0)) (g:={g with β:=upd g.β st.length w.heap.size}) (st:=st++[{row:=false,sz,els:=[],lent:=false}]) st.length {row:=false,sz,els:=[],lent:=false} (by simp) hm
 simpa[ybn]using this
theorem yX4{key:Nat}{o:Obj}{v:Value}(ho:st[key]?=some o)(h:RepV w g st (.mapv key) v):o.isMap=true∧v=.map (some (g.β key)):=by
 cases h with
 |mapv _ ob h1 h2=>
  obtain rfl:ob=o:=Option.some.inj (h1.symm.trans ho)
  exact⟨h2,rfl⟩
theorem Yab{o:Obj}{es:Array MapEntry}(h1:es.size=o.els.length)(h2:∀ (i:Nat) (e:MapEntry) (el:D),es[i]?=some e→o.els[i]?=some el→RepV w g st (entK o.sz el) e.key∧RepV w g st (entV o.sz el) e.val):Ents w g st o.sz o.els es.toList:=
 ⟨by simpa using h1,fun i e el he hel=>h2 i e el (by simpa using he) hel⟩
theorem yYt{P:Program}{kt:TypeId}{sz:Nat}{ks:List Nat}(h:yBu P kt=some (sz,ks)):sz≠0:=by
 unfold yBu at h
 repeat' split at h
 all_goals first | (cases h; done) | (simp only[Ywh,Ywj]at h; omega)
theorem ySq(hS:SR base w g st){t kt et:TypeId}{sz:Nat}{ks:List Nat}{ok:Bool}{m k r zd:D}{vm vk:Value}(ht:yMj P t=some (kt,et,sz,ks))(hz:zrOf P et=some zd)(hm:RepV w g st m vm)(hk:RepV w g st k vk)
  (h:ydz st sz ks ok zd m k=some r):∃ v,(Instr.lookup t vm vk ok).run P w=.ok v w∧RepV w g st r v:=by
 obtain⟨hu,hkt,hns,_,_⟩:=yIq ht
 have hsz0:sz≠0:=yYt hkt
 unfold ydz at h
 split at h
 case h_2=>rw[if_neg hsz0]at h; cases h
 case h_3=>cases h
 rename_i key
 split at h
 case h_2=>cases h
 rename_i o ho
 split at h
 case isFalse=>cases h
 rename_i hc
 simp only[Bool.and_eq_true,beq_iff_eq]at hc
 obtain⟨⟨_,rfl⟩,hkk⟩:=hc
 obtain⟨b,hb⟩:=Option.isSome_iff_exists.1 hkk
 obtain⟨hmap,rfl⟩:=yX4 ho hm
 obtain⟨es,clock,h1,h2,h3,h4,h5,h5'⟩:=(hS.mp key o ho hmap).old (by first | exact hns | (simpa using hns))
 have hE:=Yab h3 h5
 have hchk:=yqb (w:=w) hkt hb hk es.isEmpty
 have hzr:∃ z,(zeroValue et).run P w=.ok z w∧RepV w g st zd z:=by
  unfold zrOf at hz
  split at hz
  case h_2=>cases hz
  rename_i i hi
  split at hz
  case h_2=>cases hz
  rename_i z hzz
  exact⟨z,by simp[zeroValue,typeInfo,hi,hzz],yjw hz⟩
 obtain⟨z,hz1,hz2⟩:=hzr
 have tup2:∀ (x:D) (v:Value) (b:Bool),RepV w g st x v→RepV w g st (.tup [x,.bool b]) (.tuple #[v,.bool b]):=fun x v b hx=>by
  refine .tup [x,.bool b] [v,.bool b] rfl fun i d u hd hu=>?_
  match i,hd,hu with
  |0,hd,hu=>simp at hd hu; subst hd; subst hu; exact hx
  |1,hd,hu=>simp at hd hu; subst hd; subst hu; exact .bool _
 split at h
 ·rename_i i hi
  split at h
  ·rename_i el hel
   simp only[Ywh]at h
   subst h
   rcases yn6 hkt hk hE hi with⟨h6,_⟩ | ⟨j,e,h6,h7,h8,el',h9,h10⟩
   ·cases h6
   ·obtain rfl:=Option.some.inj h6
    have hr:=(h5 i e el (by simpa using h7) hel).2
    cases ok with
    |true=>exact⟨.tuple #[e.val,.bool true],by simp[Instr.lookup,run_underlying hu,MapKept.run_getObj_map h1,hchk,h8],tup2 _ _ _ hr⟩
    |false=>exact⟨e.val,by simp[Instr.lookup,run_underlying hu,MapKept.run_getObj_map h1,hchk,h8],hr⟩
  ·cases h
 ·rename_i hi
  simp only[Ywh]at h
  subst h
  rcases yn6 hkt hk hE hi with⟨_,h8⟩ | ⟨j,e,h6,_⟩
  ·cases ok with
   |true=>exact⟨.tuple #[z,.bool false],by simp[Instr.lookup,run_underlying hu,MapKept.run_getObj_map h1,hchk,h8,hz1],tup2 _ _ _ hz2⟩
   |false=>exact⟨z,by simp[Instr.lookup,run_underlying hu,MapKept.run_getObj_map h1,hchk,h8,hz1],hz2⟩
  ·cases h6
 ·cases h
def yPv(P:Program)(t:TypeId):Option D:=match P.underlying t with
 |some (.map kt et)=>match P.underlying kt,szOf P et,agOf P et,zrOf P et with
  |some (.int .i64),some 1,some true,some zd=>some zd
  |_,_,_,_=>none
 |_=>none
theorem yTj{P:Program}{t:TypeId}{zd:D}(h:yPv P t=some zd):∃ kt et,P.underlying t=some (.map kt et)∧P.underlying kt=some (.int .i64)∧zrOf P et=some zd:=by
 unfold yPv at h
 split at h
 case h_2=>cases h
 rename_i kt et hu
 split at h
 case h_2=>cases h
 rename_i h1 h2 h3 h4
 simp only[Ywh]at h
 subst h
 exact⟨kt,et,hu,h1,h4⟩
theorem yAm{es:List (Int×Nat)}(n:Int):∀ (l:List MapEntry) (i:Nat),(∀ e∈l,∃ m f,e.key=.int .i64 m∧e.val=.agg #[.func (.func f) #[] #[]]∧f<5000000∧yel m es=some f)→
  (∃ j f,Instr.findNow (.int .i64) (.int .i64 n) l i=some (some (j,.agg #[.func (.func f) #[] #[]]))∧yel n es=some f∧f<5000000)∨(Instr.findNow (.int .i64) (.int .i64 n) l i=some none∧∀ e∈l,e.key≠.int .i64 n)
 |[],i,_=>.inr ⟨rfl,fun e he=>by cases he⟩
 |e::l,i,h=>by
  obtain⟨m,f,h1,h2,h3,h4⟩:=h e (by simp)
  by_cases hmn:n=m
  ·subst hmn
   exact .inl ⟨i,f,by simp[Instr.findNow,Instr.sameNow,h1,h2],h4,h3⟩
  ·have hf:Instr.findNow (.int .i64) (.int .i64 n) (e::l) i=Instr.findNow (.int .i64) (.int .i64 n) l (i+1):=by
    have hb:(n == m)=false:=by simpa using hmn
    simp only[Instr.findNow,Instr.sameNow,h1,if_true,hb]
   rcases yAm n l (i+1) (fun x hx=>h x (by simp[hx]))with⟨j,f',h5,h6⟩ | ⟨h5,h6⟩
   ·exact .inl ⟨j,f',hf.trans h5,h6⟩
   ·refine .inr ⟨hf.trans h5,fun x hx=>?_⟩
    rcases List.mem_cons.1 hx with rfl | hx
    ·rw[h1]; intro e; cases e; exact hmn rfl
    ·exact h6 x hx
theorem Ygv{t:TypeId}{ok:Bool}{m k r zd:D}{vm vk:Value}(ht:yPv P t=some zd)(hm:RepV w g st m vm)(hk:RepV w g st k vk)(h:ydz st 0 [] ok zd m k=some r) :
  ∃ v,(Instr.lookup t vm vk ok).run P w=.ok v w∧RepV w g st r v:=by
 obtain⟨kt,et,hu,hkt,hz⟩:=yTj ht
 unfold ydz at h
 split at h
 case h_3=>cases h
 case h_1=>
  split at h
  case h_2=>cases h
  split at h
  case isFalse=>cases h
  rename_i hc
  simp only[Bool.and_eq_true,beq_iff_eq]at hc
  have:=yF0 hc.1.1
  omega
 rename_i es
 rw[if_pos rfl]at h
 split at h
 case h_2=>cases h
 rename_i n
 simp only[Ywh]at h
 obtain⟨b,ents,clock,rfl,h1,h3⟩:∃ b ents clock,vm=.map (some b)∧w.heap[b]?=some (.map ents clock)∧yNw ents es:=by
  cases hm with
  |gmap _ b ents clock h1 h2 h3=>exact⟨b,ents,clock,rfl,h1,h3⟩
 have hk':=hk
 cases hk'
 have hkt2:yBu P kt=some (2,[0]):=by unfold yBu; rw[hkt]
 have hchk:=yqb (w:=w) hkt2 (show yka 2 [0] (.int .i64 n) (.int .i64 n)=some (n == n) by simp[yka,ydk]) hk ents.isEmpty
 have hzr:∃ z,(zeroValue et).run P w=.ok z w∧RepV w g st zd z:=by
  unfold zrOf at hz
  split at hz
  case h_2=>cases hz
  rename_i i hi
  split at hz
  case h_2=>cases hz
  rename_i z hzz
  exact⟨z,by simp[zeroValue,typeInfo,hi,hzz],yjw hz⟩
 obtain⟨z,hz1,hz2⟩:=hzr
 have tup2:∀ (x:D) (v:Value) (b:Bool),RepV w g st x v→RepV w g st (.tup [x,.bool b]) (.tuple #[v,.bool b]):=fun x v b hx=>by
  refine .tup [x,.bool b] [v,.bool b] rfl fun i d u hd hu=>?_
  match i,hd,hu with
  |0,hd,hu=>simp at hd hu; subst hd; subst hu; exact hx
  |1,hd,hu=>simp at hd hu; subst hd; subst hu; exact .bool _
 have hfun:∀ f,f<5000000→RepV w g st (.agg [.clo f []]) (.agg #[.func (.func f) #[] #[]]):=fun f hf=>by
  refine .agg [.clo f []] [.func (.func f) #[] #[]] rfl fun i d u hd hu=>?_
  match i,hd,hu with
  |0,hd,hu=>
   simp at hd hu; subst hd; subst hu
   have:=RepV.clo (w:=w) (g:=g) (st:=st) f [] [] rfl (fun i d v h=>by simp at h)
   rw[yv8 hf,ysw,ywe]at this
   exact this
 have hfk:∀ r,Instr.findNow (.int .i64) (.int .i64 n) ents.toList 0=some r→(Instr.findKey kt (.int .i64 n) ents.toList).run P w=.ok r w:=fun r hr=>by
  simp[Instr.findKey,run_underlying hkt,hr]
 rcases yAm n ents.toList 0 h3.1 with⟨j,f,h5,h6,h7⟩ | ⟨h5,h6⟩
 ·have h8:=hfk _ h5
  rw[h6]at h
  simp only at h
  cases ok with
  |true=>
   simp only[if_true]at h
   subst h
   exact⟨.tuple #[.agg #[.func (.func f) #[] #[]],.bool true],by simp[Instr.lookup,run_underlying hu,MapKept.run_getObj_map h1,hchk,h8],tup2 _ _ _ (hfun f h7)⟩
  |false=>
   simp only[Bool.false_eq_true,if_false]at h
   subst h
   exact⟨.agg #[.func (.func f) #[] #[]],by simp[Instr.lookup,run_underlying hu,MapKept.run_getObj_map h1,hchk,h8],hfun f h7⟩
 ·have h8:=hfk _ h5
  have hno:yel n es=none:=by
   cases hg:yel n es with
   |none=>rfl
   |some f=>
    obtain⟨e,he,hke⟩:=h3.2 n f hg
    exact absurd hke (h6 e he)
  rw[hno]at h
  simp only at h
  cases ok with
  |true=>
   simp only[if_true]at h
   subst h
   exact⟨.tuple #[z,.bool false],by simp[Instr.lookup,run_underlying hu,MapKept.run_getObj_map h1,hchk,h8,hz1],tup2 _ _ _ hz2⟩
  |false=>
   simp only[Bool.false_eq_true,if_false]at h
   subst h
   exact⟨z,by simp[Instr.lookup,run_underlying hu,MapKept.run_getObj_map h1,hchk,h8,hz1],hz2⟩
theorem Yu2{sz:Nat}{ks:List Nat}{k v:D}{b:Bool}(h:yka sz ks k k=some b)(hl:k.cells.length+1=sz):entK sz (.agg (k.cells++[v]))=k∧entV sz (.agg (k.cells++[v]))=v:=by
 have e1:(k.cells++[v]).take (sz - 1)=k.cells:=by rw[show sz - 1=k.cells.length by omega]; simp
 have e2:(k.cells++[v]).drop (sz - 1)=[v]:=by rw[show sz - 1=k.cells.length by omega]; simp
 refine⟨?_,by simp only[entV,e2]; rfl⟩
 simp only[entK,e1]
 unfold yka at h
 split at h
 ·rename_i e
  subst e
  split at h
  ·have hs:=(ylc h).1
   cases k <;> first | rfl | (simp[yHu]at hs; done)
  ·cases h
 ·rename_i e
  split at h
  ·simp[e,D.mk,D.cells]
  ·cases h
theorem Yjc{d:D}{v:Value}(h:RepV w g st d v)(hd:d.isCell=true):aggV v=false:=by
 have:=h.oneCell hd
 cases v <;> first | rfl | (simp[Value.oneCell']at this; done)
theorem yIo(hS:SR base w g st){t kt et:TypeId}{sz:Nat}{ks:List Nat}{m k v:D}{vm vk vv:Value}{st':St}(ht:yMj P t=some (kt,et,sz,ks))(hm:RepV w g st m vm)(hk:RepV w g st k vk)(hv:RepV w g st v vv)
  (h:yCg st sz ks m k v=some st'):∃ w' g',(Instr.mapUpdate t vm vk vv).run P w=.ok () w'∧Go1 base w g st w' g' st':=by
 obtain⟨hu,hkt,hns,_,_⟩:=yIq ht
 unfold yCg at h
 split at h
 case h_2=>cases h
 rename_i key
 split at h
 case h_2=>cases h
 rename_i o ho
 split at h
 case isFalse=>cases h
 rename_i hc
 simp only[Bool.and_eq_true,Bool.not_eq_true',beq_iff_eq]at hc
 obtain⟨⟨⟨⟨⟨⟨_,rfl⟩,hlent⟩,hvc⟩,hl⟩,hall⟩,hkq⟩:=hc
 obtain⟨hmap,rfl⟩:=yX4 ho hm
 obtain⟨es,clock,h1,h2,h3,h4,h5,h5'⟩:=(hS.mp key o ho hmap).old (by first | exact hns | (simpa using hns))
 have hE:=Yab h3 h5
 have hchk:=yqb (w:=w) hkt hkq hk false
 obtain⟨k1,k2⟩:=Yu2 (v:=v) hkq hl
 have hel:∃ l,(D.agg (k.cells++[v]))=.agg l∧l.length=o.sz:=⟨_,rfl,by rw[List.length_append]; exact hl⟩
 have hlt:g.β key<w.heap.size:=(Array.getElem?_eq_some_iff.1 h1).1
 split at h
 ·rename_i i hi
  simp only[Ywh]at h
  subst h
  rcases yn6 hkt hk hE hi with⟨h6,_⟩ | ⟨j,e,h6,h7,h8,el',h9,h10⟩
  ·cases h6
  ·obtain rfl:=Option.some.inj h6
   have h7':es[i]?=some e:=by simpa using h7
   have hke:e.key=vk:=(yS4 h10 hk (h5 i e el' h7' h9).1).symm
   have hst:(Instr.keyThatStays e.key vk).run P w=.ok vk w:=by rw[hke]; exact yI5 hkq hk w
   refine⟨_,g,?_,SR.updMap (o':={o with els:=o.els.set i (.agg (k.cells++[v]))}) (es':=es.modify i fun e=>{e with key:=vk,val:=vv}) (clock':=clock) (w':={w with heap:=w.heap.setIfInBounds (g.β key) (.map (es.modify i fun e=>{e with key:=vk,val:=vv}) clock)}) hS ho hmap hns rfl rfl (by simp) rfl
    ⟨rfl,rfl,rfl,by simp⟩ (fun b hb=>(MapKept.heap_set h1).2 b hb) (MapKept.heap_set h1).1 (by simpa using h3) ?_ ?_ ?_⟩
   ·simp[Instr.mapUpdate,run_underlying hu,MapKept.run_getObj_map h1,hchk,h8,h7',hst,MapKept.run_setObj_map _ h1]
   ·intro x hx
    rcases List.mem_or_eq_of_mem_set hx with hx | rfl
    ·exact h4 x hx
    ·exact hel
   ·intro j e2 el2 he2 hel2
    rw[Array.getElem?_modify]at he2
    by_cases hij:i=j
    ·subst hij
     rw[if_pos rfl,h7']at he2
     simp only[Option.map_some,Ywh]at he2
     subst he2
     have hil:i<o.els.length:=(List.getElem?_eq_some_iff.1 h9).1
     simp only[List.getElem?_set_self hil,Ywh]at hel2
     subst hel2
     rw[k1,k2]
     exact⟨hk,hv⟩
    ·rw[if_neg hij]at he2
     simp only[List.getElem?_set_ne hij]at hel2
     exact h5 j e2 el2 he2 hel2
   ·rw[yLh]at h5' ⊢
    rw[Array.getElem?_modify]
    by_cases hij:i=0
    ·subst hij
     rw[if_pos rfl,h7']
     exact Yjc hv hvc
    ·rw[if_neg hij]
     exact h5'
 ·rename_i hi
  simp only[Ywh]at h
  subst h
  rcases yn6 hkt hk hE hi with⟨_,h8⟩ | ⟨j,e,h6,_⟩
  ·refine⟨_,g,?_,SR.updMap (o':={o with els:=o.els++[.agg (k.cells++[v])]}) (es':=es.push {key:=vk,val:=vv,born:=clock}) (clock':=clock+1) (w':={w with heap:=w.heap.setIfInBounds (g.β key) (.map (es.push {key:=vk,val:=vv,born:=clock}) (clock+1))}) hS ho hmap hns rfl rfl (by simp) rfl
    ⟨rfl,rfl,rfl,by simp⟩ (fun b hb=>(MapKept.heap_set h1).2 b hb) (MapKept.heap_set h1).1 (by simpa using h3) ?_ ?_ ?_⟩
   ·simp[Instr.mapUpdate,run_underlying hu,MapKept.run_getObj_map h1,hchk,h8,MapKept.run_setObj_map _ h1]
   ·intro x hx
    rcases List.mem_append.1 hx with hx | hx
    ·exact h4 x hx
    ·simp at hx; subst hx; exact hel
   ·intro j e2 el2 he2 hel2
    by_cases hj:j<es.size
    ·rw[Array.getElem?_push_lt hj]at he2
     simp only[List.getElem?_append_left (show j<o.els.length by omega)]at hel2
     exact h5 j e2 el2 (by rw[Array.getElem?_eq_getElem hj]; exact he2) hel2
    ·have hje:j=es.size:=by
      have:=(List.getElem?_eq_some_iff.1 hel2).1
      simp at this
      omega
     subst hje
     simp at he2
     subst he2
     rw[h3]at hel2
     simp only[List.getElem?_append_right (Nat.le_refl _),Nat.sub_self,List.getElem?_cons_zero,Ywh]at hel2
     subst hel2
     rw[k1,k2]
     exact⟨hk,hv⟩
   ·rw[yLh]at h5' ⊢
    by_cases hj:0<es.size
    ·rw[Array.getElem?_push_lt hj]
     rw[Array.getElem?_eq_getElem hj]at h5'
     exact h5'
    ·have he:es=#[]:=Array.eq_empty_of_size_eq_zero (by omega)
     subst he
     exact Yjc hv hvc
  ·cases h6
 ·cases h
theorem Yo5(hS:SR base w g st){dT sT ty elem:TypeId}{key tot off len:Nat}{s r:D}{vd vs:Value}{st':St}(hu:P.underlying dT=some (.slice elem))(hsz:(P.info? elem).map (·.size)=some 1)(hd:RepV w g st (.row key tot off len) vd)(hs:RepV w g st s vs)
  (h:yXc st 1 key tot off len s=some (r,st')):RunsTo P base w g st (Builtin.copy_ #[dT,sT] ty #[vd,vs]) r st':=by
 unfold yXc at h
 split at h
 case h_2=>cases h
 rename_i o sz2 xs ho hxs
 split at h
 case isFalse=>cases h
 rename_i hc
 simp only[Bool.and_eq_true,Bool.not_eq_true',beq_iff_eq,decide_eq_true_eq,Bool.or_eq_true,List.isEmpty_iff]at hc
 obtain⟨⟨⟨⟨⟨⟨⟨⟨hrow,hlent⟩,htot⟩,hosz⟩,_⟩,hsz2⟩,hoff⟩,hstr⟩,hpos⟩:=hc
 simp only[Ywh,Ywj]at h
 obtain⟨rfl,rfl⟩:=h
 obtain⟨ob,h1,h2,h3,rfl,h5⟩:=yun (by simp[live,ho,hrow,htot]) hd
 obtain rfl:ob=o:=Option.some.inj (h1.symm.trans ho)
 obtain⟨C,e,hb,hbase,hszp,hx,hC,hrep⟩:=hS.blk key ob ho (ycc hrow)
 rw[hrow]at hC
 simp only[if_true]at hC
 have hE:Els w g st vs 1 xs:=by
  rcases yAu hS hxs hs with h6 | ⟨s',rfl,_,_⟩
  ·exact h6.cast hsz2
  ·simp[yp1]at hstr
 obtain⟨⟨a,cap,rfl,hsh⟩,hpure,hxl⟩:=hE
 have hmx:min len xs.length≤xs.length:=Nat.min_le_right _ _
 have hml:min len xs.length≤len:=Nat.min_le_left _ _
 have hnat:Nat.min xs.length len=min len xs.length:=Nat.min_comm ..
 generalize min len xs.length=m at*
 have hxne:xs≠[]:=by
  intro e1; subst e1; simp at hmx; omega
 obtain⟨b,o2,rfl,_,hcell⟩:=hsh hxne
 have hat:∀ j,j<m→∃ d u,ybm xs j 0=some d∧w.cell? ⟨b,o2+j,none⟩=some u∧RepV w g st d u∧u.oneCell'=true:=by
  intro j hj
  have hjx:j<xs.length:=by omega
  have hl1:=hxl xs[j] (List.getElem_mem hjx)
  have hd0:ybm xs j 0=some (xs[j].cells[0]'(by omega)):=ya5 (List.getElem?_eq_getElem hjx) (List.getElem?_eq_getElem (by omega))
  obtain⟨u,h6,h7,h8⟩:=hcell j 0 _ hd0
  rw[Nat.mul_one,Nat.add_zero]at h6
  exact⟨_,u,hd0,h6,h7,h8⟩
 have hcs:∀ j:Nat,((List.range m).map fun j=>(w.cell? ⟨b,o2+j,none⟩).getD undef)[j]?=if j<m then w.cell? ⟨b,o2+j,none⟩else none:=fun j=>by
  rw[List.getElem?_map]
  split
  ·rename_i hj
   obtain⟨_,u,_,h6,_⟩:=hat j hj
   rw[List.getElem?_range hj,h6,Option.map_some,h6]; rfl
  ·rename_i hj
   rw[List.getElem?_eq_none (by rw[List.length_range]; omega)]; rfl
 have hlen:((List.range m).map fun j=>(w.cell? ⟨b,o2+j,none⟩).getD undef).length=m:=by rw[List.length_map,List.length_range]
 generalize ((List.range m).map fun j=>(w.cell? ⟨b,o2+j,none⟩).getD undef)=cs at hcs hlen
 have hone:∀ v∈cs,v.oneCell'=true:=fun v hv=>by
  obtain⟨j,hj⟩:=List.mem_iff_getElem?.1 hv
  have hjl:j<m:=by have:=(List.getElem?_eq_some_iff.1 hj).1; omega
  rw[hcs,if_pos hjl]at hj
  obtain⟨_,u,_,h6,_,h8⟩:=hat j hjl
  obtain rfl:v=u:=Option.some.inj (hj.symm.trans h6)
  exact h8
 rw[hosz,Nat.mul_one]at hC
 rw[show off*ob.sz=off by rw[hosz,Nat.mul_one]]
 have hfit:off+cs.length≤C.size:=by omega
 have hrun:=run_copy_row P w dT sT ty elem (g.β key) off len (g.γ key - off) ⟨b,o2,none⟩ xs.length cap C e cs hu hsz hb (by rw[hlen]; exact hnat.symm) (fun j v hv=>by
   rw[hcs]at hv
   split at hv
   ·rw[cell?_add]; simpa using hv
   ·cases hv) hfit hone
 have hxt:(xs.take m).length=m:=by rw[List.length_take]; omega
 have hle3:off+(xs.take m).length≤ob.els.length:=by omega
 have hsl:=ygu hle3
 have hget:∀ j y,(ybl ob.els off (xs.take m))[j]?=some y→(off≤j∧j<off+m∧xs[j - off]?=some y)∨(¬ (off≤j∧j<off+m)∧ob.els[j]?=some y):=by
  intro j y hy
  rw[yhu hle3,hxt]at hy
  split at hy
  ·rename_i hc
   rw[List.getElem?_take]at hy
   rw[if_pos (by omega)]at hy
   exact .inl ⟨hc.1,hc.2,hy⟩
  ·rename_i hc
   exact .inr ⟨hc,hy⟩
 refine⟨_,_,{g with β:=upd g.β key (g.β key),γ:=upd g.γ key (g.γ key)},hrun,?_,by simp only[goInt,hlen]; exact .int _ _⟩
 refine SR.update (o':={ob with els:=ybl ob.els off (xs.take m)}) (c:=g.γ key) hS ho (ycc hrow) hb (.inl ⟨rfl,rfl⟩) rfl rfl (by simp[hsl]) rfl ?_ (yg8 w _ _)
  (fun b' _ hne=>setRow_other w _ _ _ (by omega)) (setRow_heap w _ C _ e _ hb) ?_ ?_ ?_
 ·intro y hy
  obtain⟨j,hj⟩:=List.mem_iff_getElem?.1 hy
  rcases hget j y hj with⟨_,_,h6⟩ | ⟨_,h6⟩
  ·rw[hosz]; exact hxl y (List.mem_of_getElem? h6)
  ·exact hx y (List.mem_of_getElem? h6)
 ·intro _ y hy
  have:=(hS.dis key ob y ho hy).1
  rw[hlent]at this; cases this
 ·rw[hrow]
  simp only[if_true]
  exact⟨by rw[hosz,Nat.mul_one,yio hfit,hC.1],by rw[hsl]; exact hC.2.1,hC.2.2⟩
 ·intro i j d hd1
  obtain⟨y,hy,hdy⟩:=yap hd1
  have hj0:j=0:=by
   have h7:y.cells.length=1:=by
    rcases hget i y hy with⟨_,_,h6⟩ | ⟨_,h6⟩
    ·exact hxl y (List.mem_of_getElem? h6)
    ·have:=hx y (List.mem_of_getElem? h6); rw[hosz]at this; exact this
   have:=(List.getElem?_eq_some_iff.1 hdy).1
   omega
  subst hj0
  rw[hosz,Nat.mul_one,Nat.add_zero,yhr hfit,hlen]
  rcases hget i y hy with⟨h6,h7,h8⟩ | ⟨h6,h7⟩
  ·rw[if_pos ⟨h6,h7⟩]
   have hc1:=ya5 h8 hdy
   obtain⟨d',u,h9,h10,h11,_⟩:=hat (i - off) (by omega)
   obtain rfl:d=d':=Option.some.inj (hc1.symm.trans h9)
   exact⟨fun _=>hpure _ _ _ hc1,u,by rw[hcs,if_pos (by omega)]; exact h10,h11⟩
  ·rw[if_neg h6]
   have hc1:=ya5 h7 hdy
   obtain⟨h8,u,h9,h10⟩:=hrep i 0 d hc1
   rw[hosz,Nat.mul_one,Nat.add_zero]at h9
   exact⟨h8,u,h9,h10⟩
theorem Yo4(hS:SR base w g st){dT sT ty elem:TypeId}{d s r:D}{vd vs:Value}{st':St}(hu:P.underlying dT=some (.slice elem))(hs1:szOf P elem=some 1)(hd:RepV w g st d vd)(hs:RepV w g st s vs)
  (h:pcpy st 1 d s=some (r,st')):RunsTo P base w g st (Builtin.copy_ #[dT,sT] ty #[vd,vs]) r st':=by
 have hsz:(P.info? elem).map (·.size)=some 1:=hs1
 have hz0:∀ (a a':Option Addr) (c n' c':Nat),(Builtin.copy_ #[dT,sT] ty #[.slice a 0 c,.slice a' n' c']).run P w=.ok (goInt 0) w:=fun a a' c n' c'=>run_copy_none (P:=P) w dT sT ty elem a a' 0 c n' c' hu hsz (Nat.min_zero _)
 have hz1:∀ (a a':Option Addr) (n c c':Nat),(Builtin.copy_ #[dT,sT] ty #[.slice a n c,.slice a' 0 c']).run P w=.ok (goInt 0) w:=fun a a' n c c'=>run_copy_none (P:=P) w dT sT ty elem a a' n c 0 c' hu hsz (Nat.zero_min _)
 unfold pcpy at h
 split at h
 ·rename_i key off n sz1 _ key2 off2 n2 sz2 _
  split at h
  ·cases h
  rename_i hcond
  split at h
  case h_2=>cases h
  rename_i o o2 ho ho2
  split at h
  case isFalse=>cases h
  rename_i hc
  simp only[Bool.and_eq_true,Bool.not_eq_true',decide_eq_true_eq,Nat.mul_one]at hc
  obtain⟨⟨⟨⟨⟨hrow,hlent⟩,hrow2⟩,hle⟩,hle2⟩,hall⟩:=hc
  simp only[Ywh,Ywj,Nat.mul_one]at h
  obtain⟨rfl,rfl⟩:=h
  cases hd with
  |bsl _ _ _ _ _ ob cap q1 q2 q3 _=>
   obtain rfl:ob=o:=Option.some.inj (q1.symm.trans ho)
   cases hs with
   |bsl _ _ _ _ _ ob2 cap2 u1 u2 u3 _=>
    obtain rfl:ob2=o2:=Option.some.inj (u1.symm.trans ho2)
    obtain⟨C,e,hb,hbase,hszp,hx,hC,hrep⟩:=hS.blk key ob ho (yd6 q3)
    obtain⟨C2,e2,hb2,hbase2,hszp2,hx2,hC2,hrep2⟩:=hS.blk key2 ob2 ho2 (yd6 u3)
    rw[hrow]at hC
    rw[hrow2]at hC2
    simp only[Bool.false_eq_true,if_false]at hC hC2
    obtain⟨hC1,hC2',hC3⟩:=hC
    obtain⟨hD1,_,hD3⟩:=hC2
    have hmin:Nat.min n2 n=min n n2:=Nat.min_comm ..
    generalize hm:min n n2=mm at*
    have hxl:((ob2.els.drop off2).take mm).length=mm:=by rw[List.length_take,List.length_drop]; omega
    have srcD:∀ j d,((ob2.els.drop off2).take mm)[j]?=some d→∃ u,C2[off2+j]?=some u∧RepV w g st d u∧d.cells=[d]∧u.oneCell'=true:=fun j d hd=>by
     obtain⟨h6,_⟩:=yg7 hd
     have h7:=hD3 d (List.mem_of_getElem? h6)
     obtain⟨_,u,h8,h9⟩:=hrep2 (off2+j) 0 d (ya5 h6 (by rw[h7]; rfl))
     rw[u3]at h8
     exact⟨u,by simpa using h8,h9,h7,h9.oneCell (List.all_eq_true.1 hall d (List.mem_of_getElem? hd))⟩
    have hlen:((C2.toList.drop off2).take mm).length=mm:=by
     rw[List.length_take,List.length_drop,Array.length_toList,hD1]; omega
    have hcs:∀ j:Nat,((C2.toList.drop off2).take mm)[j]?=if j<mm then C2[off2+j]? else none:=fun j=>by
     rw[List.getElem?_take]
     split
     ·rw[List.getElem?_drop,Array.getElem?_toList]
     ·rfl
    generalize hcsd:(C2.toList.drop off2).take mm=cs at hlen hcs
    generalize hxsd:(ob2.els.drop off2).take mm=xs at*
    have hone:∀ v∈cs,v.oneCell'=true:=fun v hv=>by
     obtain⟨j,hj⟩:=List.mem_iff_getElem?.1 hv
     have hjl:j<mm:=by have:=(List.getElem?_eq_some_iff.1 hj).1; omega
     rw[hcs,if_pos hjl]at hj
     obtain⟨u,h8,_,_,h9⟩:=srcD j xs[j] (List.getElem?_eq_getElem (by omega))
     obtain rfl:v=u:=Option.some.inj (hj.symm.trans h8)
     exact h9
    have hrun:=run_copy_row P w dT sT ty elem (g.β key) off n cap ⟨g.β key2,off2,none⟩ n2 cap2 C e cs hu hsz hb (by rw[hlen]; exact hmin.symm) (fun j v hv=>by
      rw[hcs]at hv
      split at hv
      ·rw[cell?_add]; simp only[World.cell?,hb2]; simpa using hv
      ·cases hv) (by rw[hlen,hC1]; exact hle) hone
    rw[hlen]at hrun
    have hle':off+cs.length≤C.size:=by rw[hlen,hC1]; exact hle
    have hle3:off+xs.length≤ob.els.length:=by rw[hxl]; exact hle
    have hsl:=ygu hle3
    have mem:∀ y∈ybl ob.els off xs,y.cells=[y]:=by
     intro y hy
     obtain⟨j,hj⟩:=List.mem_iff_getElem?.1 hy
     rw[yhu hle3]at hj
     split at hj
     ·obtain⟨_,_,_,h8,_⟩:=srcD _ y hj
      exact h8
     ·exact hC3 y (List.mem_of_getElem? hj)
    have eo:({row:=false,sz:=ob.sz,els:=ybl ob.els off xs,lent:=ob.lent}:Obj)={ob with els:=ybl ob.els off xs}:=by rw[← hrow]
    refine⟨_,_,{g with β:=upd g.β key (g.β key),γ:=upd g.γ key (g.γ key)},hrun,?_,by simp only[goInt]; exact .int _ _⟩
    refine SR.update (o':={ob with els:=ybl ob.els off xs}) (c:=g.γ key) hS ho (yd6 q3) hb (.inl ⟨rfl,rfl⟩) rfl rfl (by simp[hsl]) rfl (fun y hy=>by rw[mem y hy,q3]; rfl) (yg8 w _ _)
     (fun b' _ hne=>setRow_other w _ _ _ (by omega)) (by rw[← hlen]; exact setRow_heap w _ C _ e _ hb) ?_ ?_ ?_
    ·intro _ y hy
     have:=(hS.dis key ob y ho hy).1
     rw[hlent]at this; cases this
    ·rw[hrow]
     simp only[Bool.false_eq_true,if_false]
     exact⟨by rw[yio hle',hC1,hsl],q3,mem⟩
    ·intro i j d hd
     refine⟨fun h=>by simp[hrow]at h,?_⟩
     obtain⟨y,hy,hdy⟩:=yap hd
     have h5:=mem y (List.mem_of_getElem? hy)
     rw[h5]at hdy
     cases j with
     |succ j=>simp at hdy
     |zero=>
      simp only[List.getElem?_cons_zero,Ywh]at hdy
      subst hdy
      rw[q3,Nat.mul_one,Nat.add_zero,yhr hle']
      rw[yhu hle3]at hy
      rw[hlen]
      rw[hxl]at hy
      split at hy
      ·rename_i hc
       rw[if_pos hc]
       obtain⟨u,h6,h7,_⟩:=srcD _ y hy
       rw[hcs,if_pos (by omega)]
       exact⟨u,h6,h7⟩
      ·rename_i hc
       rw[if_neg hc]
       have h8:=hC3 y (List.mem_of_getElem? hy)
       obtain⟨_,u,h6,h7⟩:=hrep i 0 y (ya5 hy (by rw[h8]; rfl))
       rw[q3]at h6
       exact⟨u,by simpa using h6,h7⟩
 ·simp only[Ywh,Ywj]at h
  obtain⟨rfl,rfl⟩:=h
  cases hd with
  |slcE _ _ a cap _=>
   cases hs with
   |bsl _ _ _ _ _ ob cap2 q1 q2 q3 _=>
    exact⟨goInt 0,w,g,hz0 _ _ _ _ _,Go1.refl hS,.int _ _⟩
  |slc _ _ _ _ _ _ _ h=>exact absurd rfl h
 ·simp only[Ywh,Ywj]at h
  obtain⟨rfl,rfl⟩:=h
  cases hs with
  |slcE _ _ a cap _=>
   cases hd with
   |bsl _ _ _ _ _ ob cap2 q1 q2 q3 _=>
    exact⟨goInt 0,w,g,hz1 _ _ _ _ _,Go1.refl hS,.int _ _⟩
  |slc _ _ _ _ _ _ _ h=>exact absurd rfl h
 ·simp only[Ywh,Ywj]at h
  obtain⟨rfl,rfl⟩:=h
  cases hs with
  |slcE _ _ a cap _=>
   cases hd with
   |slcE _ _ a2 cap2 _=>
    exact⟨goInt 0,w,g,hz0 _ _ _ _ _,Go1.refl hS,.int _ _⟩
   |slc _ _ _ _ _ _ _ h=>exact absurd rfl h
  |slc _ _ _ _ _ _ _ h=>exact absurd rfl h
 ·exact Yo5 hS hu hsz hd hs h
 ·cases h
end
end Go.Proofs.YtijnglngaogdjaaGreatDoor.PI
namespace Go.Proofs.YtijnglngaogdjaaGreatDoor.PI
open Go Go.RowKit
def yL6(P:Program)(t:TypeId):Option (Nat→Option (Nat×Nat)):=
 match P.underlying t with
 |some (.array _ e)=>match P.info? e with
  |some ie=>some fun i=>some (i*ie.size,ie.size)
  |none=>none
 |some (.struct fields)=>match fields.toList.mapM (fun f=>(P.info? f.type).map fun i=>(f.offset,i.size))with
  |some places=>some fun i=>places.toArray[i]?
  |none=>none
 |_=>none
def yvn(pl:Nat→Option (Nat×Nat)):List (Nat×Operand)→Option (List (Nat×Nat×PA))
 |[]=>some []
 |(i,x)::r=>match pl i,trA x,yvn pl r with
  |some (off,size),some a,some l=>some ((off,size,a)::l)
  |_,_,_=>none
def yyv:Nat→List (Nat×Operand)→Option (List PA)
 |_,[]=>some []
 |k,(i,x)::r=>match trA x,yyv (k+1) r with
  |some a,some l=>if i=k then some (a::l)else none
  |_,_=>none
def Yc9(P:Program)(op:BinOp)(t:TypeId)(a b:PA):Option POp:=
 match op with
 |.eql | .neq=>
  let neg:=match op with | .neq=>true | _=>false
  match P.underlying t with
  |some (.int _) | some .string=>some (.bin op a b)
  |some .bool=>some (.beq neg a b)
  |some (.struct _) | some (.array _ _)=>match ynx P 100 t with
   |some ks=>if P.eqGuardType P.depth t then none else some (.aeq ks neg a b)
   |none=>none
  |_=>none
 |_=>some (.bin op a b)
def yN4(P:Program)(src dst:TypeId)(a:PA):Option POp:=
 match P.underlying src,P.underlying dst with
 |some _,some (.int k)=>some (.conv (.int k) a)
 |some .string,some .string=>some (.conv .same a)
 |some .string,some (.slice e)=>match P.underlying e with
  |some (.int .u8)=>some (.conv .bytes a)
  |_=>none
 |some (.slice e),some .string=>match P.underlying e with
  |some (.int .u8)=>some (.conv .str a)
  |_=>none
 |_,_=>none
def yD4(P:Program)(t:TypeId)(a:PA)(lo hi mx:Option PA):Option POp:=
 match P.underlying t with
 |some .string=>some (.slice 0 a lo hi mx)
 |some (.slice e)=>match szOf P e with
  |some sz=>if sz=0 then none else some (.slice sz a lo hi mx)
  |none=>none
 |some (.array n e)=>match szOf P e,agOf P e,mx with
  |some sz,some ag,none=>some (.sliceA n sz ag a lo hi)
  |_,_,_=>none
 |_=>none
def yts(P:Program)(b:Builtin)(args:List Operand)(ts:List TypeId):Option POp:=
 match b,args,ts with
 |.len,[x],[t]=>match trA x,P.underlying t with
  |some a,some .string=>some (.len true a)
  |some a,some (.slice _)=>some (.len false a)
  |some _,some (.array n _)=>some (.lenA n)
  |_,_=>none
 |.append,[s,x],[t,tx]=>match trA s,trA x,P.underlying t,P.underlying tx with
  |some a,some b,some (.slice e),some (.slice _) | some a,some b,some (.slice e),some .string=>match P.info? e with
   |some i=>match i.zero with
    |some z=>if z.cells.size=i.size then some (.app i.size i.bytes a b)else none
    |none=>none
   |none=>none
  |_,_,_,_=>none
 |.copy,[d,s],[t,_]=>match trA d,trA s,P.underlying t with
  |some a,some b,some (.slice e)=>match szOf P e with
   |some 1=>some (.cpy 1 a b)
   |_=>none
  |_,_,_=>none
 |.min,[x,y],_=>match trA x,trA y with
  |some a,some b=>some (.mm false a b)
  |_,_=>none
 |.max,[x,y],_=>match trA x,trA y with
  |some a,some b=>some (.mm true a b)
  |_,_=>none
 |.min,[x,y,z],_=>match trA x,trA y,trA z with
  |some a,some b,some c=>some (.mm3 false a b c)
  |_,_,_=>none
 |.max,[x,y,z],_=>match trA x,trA y,trA z with
  |some a,some b,some c=>some (.mm3 true a b c)
  |_,_,_=>none
 |_,_,_=>none
def trOp(P:Program)(il:List Nat):Op→Option POp
 |.move x | .assign x=>(trA x).map .mov
 |.pick c a b=>match trA c,trA a,trA b with
  |some c,some a,some b=>some (.pick c a b)
  |_,_,_=>none
 |.alloc t=>(zrOf P t).map fun d=>.box (.c d)
 |.box _ x=>(trA x).map .box
 |.build t parts=>match zrOf P t,yL6 P t with
  |some (.agg zs),some pl=>(yvn pl parts.toList).map (.bld zs)
  |_,_=>none
 |.buildSlice t len parts=>match P.underlying t with
  |some (.slice e)=>match P.info? e with
   |some i=>match i.zero,yyv 0 parts.toList with
    |some _,some l=>if l.length=len then some (.bslc i.size l)else none
    |_,_=>none
   |none=>none
  |_=>none
 |.load t a=>match trA a,szOf P t,agOf P t with
  |some a,some n,some ag=>some (.load n ag a)
  |_,_,_=>none
 |.store t a x=>match trA a,trA x,szOf P t with
  |some a,some x,some n=>some (.stor n a x)
  |_,_,_=>none
 |.nilCheck x=>(trA x).map .nilc
 |.binOp op t x y _=>match trA x,trA y with
  |some a,some b=>Yc9 P op t a b
  |_,_=>none
 |.unOp op _ x=>(trA x).map (.un op)
 |.convert src dst x=>match trA x with
  |some a=>yN4 P src dst a
  |none=>none
 |.makeSlice t l c=>match trA l,trA c,P.underlying t with
  |some l,some c,some (.slice e)=>match P.info? e with
   |some i=>match i.zero with
    |some z=>(yw3 z).map fun zd=>.mkslc i.size i.bytes zd l c
    |none=>none
   |none=>none
  |_,_,_=>none
 |.slice t x lo hi mx=>match trA x,trO lo,trO hi,trO mx with
  |some a,some lo,some hi,some mx=>yD4 P t a lo hi mx
  |_,_,_,_=>none
 |.fieldAddr s x f=>match trA x,P.underlying s with
  |some a,some (.struct fields)=>match fields[f]? with
   |some fd=>match szOf P fd.type with
    |some n=>if n=0 then none else some (.fld fd.offset a)
    |none=>none
   |none=>none
  |_,_=>none
 |.field s x f=>match trA x,P.underlying s with
  |some a,some (.struct fields)=>match fields[f]? with
   |some fd=>match szOf P fd.type,agOf P fd.type with
    |some n,some ag=>some (.fldv fd.offset n ag a)
    |_,_=>none
   |none=>none
  |_,_=>none
 |.indexAddr t x i=>match trA x,trA i,P.underlying t with
  |some a,some i,some (.array len e)=>(szOf P e).map fun n=>.idxA len n a i
  |some a,some i,some (.slice e)=>(szOf P e).map fun n=>.idxS n a i
  |_,_,_=>none
 |.index t x i=>match trA x,trA i,P.underlying t with
  |some a,some i,some (.array len e)=>match szOf P e,agOf P e with
   |some n,some ag=>some (.idxV len n ag a i)
   |_,_=>none
  |some a,some i,some .string=>some (.idx a i)
  |_,_,_=>none
 |.extract x i=>(trA x).map fun a=>.ext a i
 |.makeMap t none=>match yMj P t with
  |some (_,_,sz,_)=>some (.mkmap sz)
  |none=>none
 |.mapUpdate t m k v | .insert t m k v=>match yMj P t,trA m,trA k,trA v with
  |some (_,_,sz,ks),some m,some k,some v=>some (.mapup sz ks m k v)
  |_,_,_,_=>none
 |.lookup t m k ok=>match yMj P t,trA m,trA k with
  |some (_,et,sz,ks),some m,some k=>(zrOf P et).map fun zd=>.mapget sz ks ok zd m k
  |_,_,_=>match yPv P t,trA m,trA k with
   |some zd,some m,some k=>some (.mapget 0 [] ok zd m k)
   |_,_,_=>none
 |.call c=>match c.callee with
  |.builtin b=>yts P b c.args.toList c.argTypes.toList
  |.value (.func f)=>match P.funcs[f]?,trAs c.args.toList with
   |some fn,some l=>if fn.body.isSome && !(fn.name == "runtime.NumGoroutine") && decide (f<50000000)then some (if il.contains (f+1000000)then .mcall f l else if il.contains (f+90000000)then .rcall f l else if il.contains f then .icall f l else .call f l)else if fn.body.isSome then none else some (.call (f+50000000) l)
   |_,_=>none
  |.value x=>match trA x,trAs c.args.toList with
   |some a,some l=>some (.callv a l)
   |_,_=>none
  |_=>none
 |.makeFunc (.func f) first caps=>if decide (f<5000000)then(if first.isEmpty then(trAs caps.toList).map (.mkclo f)else if caps.isEmpty then(trAs first.toList).map (.mkclo (f+5000000))else none)else none
 |_=>none
def Contract(P:Program)(G:Glob)(f:Nat)(sp:List D→Option D):Prop:=
 ∀ (w:World) (g:Ghost) (ds:List D) (vs:List Value) (d:D),sp ds=some d→GlobOK G w g→(∀ b o,g.Im b o→(w.cell? ⟨b,o,none⟩).isSome=true)→ds.length=vs.length→
  (∀ (i:Nat) d v,ds[i]?=some d→vs[i]?=some v→RepV w g [] d v)→(∀ d∈ds,purA d=true)→
  Calls P f vs.toArray w fun e w'=>∃ v g',e=.returned v∧RepV w' g' [] d v∧purR d=true∧ImLe w g w' g'∧(∀ b o,g'.Im b o→g.Im b o∨w.heap.size≤b)∧
   (∀ b o,g'.Im b o→(w'.cell? ⟨b,o,none⟩).isSome=true)∧Below w.heap.size w w'
def IContract(P:Program)(G:Glob)(f:Nat)(sp:List D→St→Option (D×St)):Prop:=
 (∃ fn,P.funcs[f]?=some fn∧fn.body.isSome=true∧(fn.name == "runtime.NumGoroutine")=false)∧
 ∀ (base:Nat) (w:World) (g:Ghost) (st st':St) (ds:List D) (vs:List Value) (d:D),sp ds st=some (d,st')→SR base w g st→GlobOK G w g→ds.length=vs.length→
  (∀ (i:Nat) d v,ds[i]?=some d→vs[i]?=some v→RepV w g st d v)→
  Calls P f vs.toArray w fun e w'=>∃ v g',e=.returned v∧Go1 base w g st w' g' st'∧RepV w' g' st' d v
def yKt(P:Program)(base:Nat)(w:World)(g:Ghost)(st st':St)(l:Nat)(vs:List Value)(d:D):Prop:=
 ∃ f tmps assign body,(Instr.yield l vs.toArray).run P w=.ok (.round l f tmps assign body) w∧
  RoundIn Fence.wide 0 P l f tmps assign body w fun e w'=>∃ v g',e=.returned v∧Go1 base w g st w' g' st'∧RepV w' g' st' d v
def YOK(P:Program)(G:Glob)(y:Nat→List D→St→Option (D×St))(base:Nat)(w0:World)(g0:Ghost)(st0:St):Prop:=
 ∀ (l:Nat) (w:World) (g:Ghost) (st st':St) (ds:List D) (vs:List Value) (d:D),Go1 base w0 g0 st0 w g st→GlobOK G w g→y l ds st=some (d,st')→ds.length=vs.length→
  (∀ (i:Nat) d v,ds[i]?=some d→vs[i]?=some v→RepV w g st d v)→yKt P base w g st st' l vs d
def yUp(P:Program)(G:Glob)(f:Nat)(sp:(List D→St→Option (D×St))→List D→St→Option (D×St)):Prop:=
 (∃ fn,P.funcs[f]?=some fn∧fn.body.isSome=true∧(fn.name == "runtime.NumGoroutine")=false)∧
 ∀ (base:Nat) (w:World) (g:Ghost) (st st':St) (ds:List D) (vs:List Value) (d:D) (l:Nat) (y:List D→St→Option (D×St)),YOK P G (fun l' ds st=>if l'=l then y ds st else none) base w g st→
  sp y ds st=some (d,st')→SR base w g st→GlobOK G w g→ds.length=vs.length→(∀ (i:Nat) d v,ds[i]?=some d→vs[i]?=some v→RepV w g st d v)→
  Calls P f (Value.func (.yield l) #[] #[]::vs).toArray w fun e w'=>∃ v g',e=.returned v∧Go1 base w g st w' g' st'∧RepV w' g' st' d v
def Ywf(P:Program)(f:Nat)(sp:List D→Option D):Prop:=
 ∀ (ys:List D) (r:D),sp ys=some r→∀ (w:World) (g:Ghost) (st:St) (vs:List Value),ys.length=vs.length→(∀ (i:Nat) y v,ys[i]?=some y→vs[i]?=some v→RepV w g st y v)→
  ∃ v,(callFunc f vs.toArray).run P w=.ok (.value v) w∧∀ (g:Ghost) (st:St),RepV w g st r v
def valI:D→Value
 |.int k n=>.int k n
 |_=>undef
def yf0:D→Value
 |.agg l=>.agg (l.map valI).toArray
 |d=>valI d
def yh4(t:Nat)(d:D):List PanicEntry:=[{v:=.iface t (yf0 d),recovered:=false}]
def yx9(t:Nat)(d:D):List PanicEntry:=[{v:=.iface t (yf0 d),recovered:=true}]
theorem Yc6{w:World}{g:Ghost}{st:St}{d:D}{v:Value}(h:RepV w g st d v)(hi:isI d=true):v=valI d:=by
 cases h <;> first | rfl | (simp[isI]at hi; done)
theorem yU3{w:World}{g:Ghost}{st:St}{d:D}{v:Value}(h:RepV w g st d v)(hi:yv6 d=true):v=yf0 d:=by
 cases h with
 |int k n=>rfl
 |agg ds vs hl hv=>
  have:vs=ds.map valI:=by
   apply List.ext_getElem (by simp[hl])
   intro i h1 h2
   have h3:i<ds.length:=by omega
   have hd:ds[i]?=some ds[i]:=List.getElem?_eq_getElem h3
   have:=Yc6 (hv i ds[i] vs[i] hd (List.getElem?_eq_getElem h1)) (List.all_eq_true.1 hi _ (List.getElem_mem h3))
   rw[this]; simp
  rw[this]; rfl
 |_=>simp[yv6,isI]at hi
def yh6(P:Program)(G:Glob)(f:Nat)(sp:List D→St→Option (Nat×D×St)):Prop:=
 (∃ fn,P.funcs[f]?=some fn∧fn.body.isSome=true∧(fn.name == "runtime.NumGoroutine")=false)∧
 ∀ (base:Nat) (w:World) (g:Ghost) (st st':St) (ds:List D) (vs:List Value) (t:Nat) (d:D),sp ds st=some (t,d,st')→SR base w g st→GlobOK G w g→ds.length=vs.length→
  (∀ (i:Nat) d v,ds[i]?=some d→vs[i]?=some v→RepV w g st d v)→
  Calls P f vs.toArray w fun e w'=>∃ g',e=.panicked (yh4 t d)∧Go1 base w g st w' g' st'
def yqk(P:Program)(G:Glob)(f:Nat)(H:Nat→D→List D→St→Option St):Prop:=
 (∃ fn,P.funcs[f]?=some fn∧fn.body.isSome=true∧(fn.name == "runtime.NumGoroutine")=false)∧
 ∀ (base:Nat) (w:World) (g:Ghost) (st:St) (das:List D) (vs:List Value),SR base w g st→GlobOK G w g→das.length=vs.length→(∀ (i:Nat) d v,das[i]?=some d→vs[i]?=some v→RepV w g st d v)→
  (CallsDIn Fence.wide 0 P f vs.toArray .returning w fun e u w'=>e=.returned (.tuple #[])∧u=.returning∧∃ g',Go1 base w g st w' g' st)∧
  ∀ t d st',H t d das st=some st'→CallsDIn Fence.wide 0 P f vs.toArray (.panicking (yh4 t d)) w fun e u w'=>e=.returned (.tuple #[])∧u=.panicking (yx9 t d)∧∃ g',Go1 base w g st w' g' st'
structure TblOK (P:Program) (G:Glob) (T:Tbl):Prop where
 p:∀ f sp,T.p f=some sp→(f<50000000∧Contract P G f sp)∨∃ f',f=f'+50000000∧Ywf P f' sp
 i:∀ f sp,T.i f=some sp→IContract P G f sp
 m:∀ f sp,T.m f=some sp→IContract P G f (fun ds st=>(sp ds).map fun r=>(r.1 st.length,st++r.2 st.length))
 r:∀ f sp,T.r f=some sp→yUp P G f sp
 x:∀ f sp,T.x f=some sp→yh6 P G f sp
 q:∀ f sp,T.q f=some sp→IContract P G f (fun ds st=>(yfr sp ds st).map (·,st))
section
variable {P:Program} {base:Nat} {w:World} {g:Ghost} {st:St}
theorem yc0(st:St)(k:Nat)(key:Nat):(st.modify k fun o=>{o with lent:=true})[key]?=(st[key]?).map fun o=>if k=key then {o with lent:=true} else o:=by
 rw[List.getElem?_modify]
 cases st[key]? with
 |none=>rfl
 |some o=>by_cases e:k=key <;> simp[e]
theorem yws(st:St)(k key tot off len:Nat):yec (st.modify k fun o=>{o with lent:=true}) key tot off len=yec st key tot off len:=by
 unfold yec
 rw[yc0]
 cases st[key]? with
 |none=>rfl
 |some o=>by_cases e:k=key <;> simp[e]
theorem yUj(st:St)(k key off n sz:Nat)(ag:Bool):bslI (st.modify k fun o=>{o with lent:=true}) key off n sz ag=bslI st key off n sz ag:=by
 unfold bslI ylf
 rw[yc0]
 cases st[key]? with
 |none=>rfl
 |some o=>by_cases e:k=key <;> simp[e]
theorem yCw(st:St)(k:Nat)(d:D):imm1 (st.modify k fun o=>{o with lent:=true}) d=imm1 st d:=by
 cases d <;> simp only[imm1,yws,yUj]
theorem yCv(st:St)(k:Nat):∀ (l:List D),immL (st.modify k fun o=>{o with lent:=true}) l=immL st l
 |[]=>rfl
 |d::l=>by simp only[immL,yCw,yCv st k l]
theorem yY6(st:St)(k:Nat)(d:D):imm (st.modify k fun o=>{o with lent:=true}) d=imm st d:=by
 cases d <;> simp only[imm,yCw,yCv]
theorem yq7(st:St)(k:Nat):∀ (l:List D),imms (st.modify k fun o=>{o with lent:=true}) l=imms st l
 |[]=>rfl
 |d::l=>by simp only[imms,yY6,yq7 st k l]
theorem yJb(l:List D):∀ (ks:List Nat) (st:St),imms (lend ks st) l=imms st l
 |[],_=>rfl
 |k::r,st=>by rw[lend,yJb l r,yq7]
theorem yYd(ks:List Nat){g g':Ghost}{st st':St}(hs:∀ (k:Nat) o',st'[k]?=some o'→∃ o,st[k]?=some o∧o'.els=o.els∧o'.sz=o.sz∧o'.row=o.row)(hb:g'.β=g.β)
  (h:∀ k∈ks,∀ o,st[k]?=some o→o.isMap=false→∀ x,x<o.els.length*o.sz→g'.Im (g.β k) x):Lent g' st' ks:=by
 intro k hk o' ho' hm x hx
 obtain⟨o,ho,e1,e2,e3⟩:=hs k o' ho'
 rw[e1,e2]at hx
 rw[hb]
 exact h k hk o ho ((yn2 e3 e2).symm.trans hm) x hx
theorem yPa:∀ (ks:List Nat) (st:St) (k:Nat) (o':Obj),(lend ks st)[k]?=some o'→∃ o,st[k]?=some o∧o'.els=o.els∧o'.sz=o.sz∧o'.row=o.row
 |[],_,_,o',h=>⟨o',h,rfl,rfl,rfl⟩
 |q::r,st,k,o',h=>by
  obtain⟨o1,h1,e1,e2,e3⟩:=yPa r _ k o' h
  rw[yc0]at h1
  cases h0:st[k]? with
  |none=>simp[h0]at h1
  |some o=>
   simp only[h0,Option.map_some,Ywh]at h1
   refine⟨o,rfl,?_,?_,?_⟩
   ·rw[e1,← h1]; split <;> rfl
   ·rw[e2,← h1]; split <;> rfl
   ·rw[e3,← h1]; split <;> rfl
theorem ymq(hS:SR base w g st){ds ys:List D}(h:imms st ds=some ys):∃ g',Go1 base w g st w g' (lend (ds.flatMap keys) st)∧g'.β=g.β∧ys.length=ds.length∧(∀ y∈ys,purA y=true)∧
  ∀ (i:Nat) y v,ys[i]?=some y→(∀ d,ds[i]?=some d→RepV w g st d v)→RepV w g' (lend (ds.flatMap keys) st) y v:=by
 obtain⟨g',hgo,hb,_,hl⟩:=hS.lend (ds.flatMap keys)
 have hL:=yYd (ds.flatMap keys) (yPa (ds.flatMap keys) st) hb hl
 obtain⟨h1,h2,h3⟩:=yPn hgo.sr ((yJb ds _ st).trans h) hL
 exact⟨g',hgo,hb,h1,h3,fun i y v hy hv=>h2 i y v hy fun d hd=>hgo.rep (hv d hd)⟩
theorem yq2{w':World}{g':Ghost}{st':St}{d:D}{v:Value}(h:RepV w g st d v)(hn:d.noRef1=true):RepV w' g' st' d v:=by
 cases h <;> first | exact .int _ _ | exact .bool _ | exact .str _ | (simp[D.noRef1]at hn; done)
theorem yIm{w':World}{g':Ghost}{st':St}{d:D}{v:Value}(h:RepV w g st d v)(hn:d.noRef=true):RepV w' g' st' d v:=by
 cases d with
 |agg l=>
  cases h with
  |agg _ vs h1 h2=>
   simp only[D.noRef,List.all_eq_true]at hn
   exact .agg l vs h1 fun i d v hd hv=>yq2 (h2 i d v hd hv) (hn d (List.mem_of_getElem? hd))
 |tup l=>
  cases h with
  |tup _ vs h1 h2=>
   simp only[D.noRef,List.all_eq_true]at hn
   refine .tup l vs h1 fun i d v hd hv=>?_
   have h3:=hn d (List.mem_of_getElem? hd)
   have h4:=h2 i d v hd hv
   cases d with
   |agg l'=>
    cases h4 with
    |agg _ vs' h5 h6=>
     simp only[List.all_eq_true]at h3
     exact .agg l' vs' h5 fun i d v hd hv=>yq2 (h6 i d v hd hv) (h3 d (List.mem_of_getElem? hd))
   |_=>exact yq2 h4 h3
 |_=>exact yq2 h hn
end
end Go.Proofs.YtijnglngaogdjaaGreatDoor.PI
