/-
  Words: what the pure operations do on machine words.
  Conditions: none; these are definitions and lemmas.
-/
import Derived.Test.YtfbbaceiimdejaaGreatDoorEngQ
import Derived.ChangeArms
import Derived.Lib.LaidTab
import Derived.ChangeSame
set_option linter.unusedVariables false
set_option linter.unusedSimpArgs false
namespace Go.Proofs.YtfbbaceiimdejaaGreatDoor.PI
open Go Go.RowKit
section
variable {P:Program} {il:List Nat} {G:Glob} {T:Tbl} {base n:Nat} {w0:World} {g0:Ghost} {st0:St} {dl:List Deferred} {ro:Option Nat}
theorem cut_get{k:Nat}{st:St}{i:Nat}{o:Obj}(h:st[i]?=some o)(hi:i<k):(cut k st)[i]?=some {o with els:=if o.row then o.els else o.els.map (low k)}:=by
 simp[cut,hi,h]
theorem cut_inv{k:Nat}{st:St}{i:Nat}{o':Obj}(h:(cut k st)[i]?=some o'):i<k∧∃ o,st[i]?=some o∧o'={o with els:=if o.row then o.els else o.els.map (low k)}:=by
 simp only[cut,List.getElem?_map,Option.map_eq_some_iff,List.getElem?_take]at h
 obtain⟨o,h1,h2⟩:=h
 split at h1
 ·rename_i hi; exact⟨hi,o,h1,h2.symm⟩
 ·cases h1
theorem cut_len(k:Nat)(o:Obj):(if o.row then o.els else o.els.map (low k)).length=o.els.length:=by
 split <;> simp
theorem low0_rep{w:World}{g:Ghost}{st:St}{k:Nat}{d:D}{v:Value}(h:RepV w g st d v):RepV w g (cut k st) (low0 k d) v:=by
 cases h with
 |int k n=>exact .int k n
 |bool b=>exact .bool b
 |str s=>exact .str s
 |nilp=>exact .nilp
 |nilm=>exact .nilm
 |gmap es b ents clock h1 h2 h3=>exact .gmap es b ents clock h1 h2 h3
 |nilf=>exact .nilf
 |slcE sz t a cap h=>exact .slcE sz t a cap h
 |slc els t b off cap sz val h1 h2 h3 h3' h4 h5 h6 h7=>exact RepV.pure (ImLe.refl _ _) (.slc els t b off cap sz val h1 h2 h3 h3' h4 h5 h6 h7) rfl
 |clo f ds vs h1 h2=>exact .junk _
 |row key tot off len o v h0 h1 h2 h3 h4=>
  simp only[low0]
  split
  ·rename_i hk
   refine .row key tot off len _ v h0 (cut_get h1 hk) h2 (by simpa[cut_len]using h3) fun e=>?_
   exact h4 (by simpa[cut_len]using e)
  ·exact .junk _
 |bsl key off n sz ag o cap h1 h2 h3 h4=>
  simp only[low0]
  split
  ·rename_i hk; exact .bsl key off n sz ag _ cap (cut_get h1 hk) h2 h3 h4
  ·exact .junk _
 |mapv key o h1 h2=>
  simp only[low0]
  split
  ·rename_i hk; exact .mapv key _ (cut_get h1 hk) h2
  ·exact .junk _
 |ptr key off o h1 h2 h3=>
  simp only[low0]
  split
  ·rename_i hk; exact .ptr key off _ (cut_get h1 hk) h2 h3
  ·exact .junk _
 |rptr key tot i off o v h0 h1 h2 h3 h4=>
  simp only[low0]
  split
  ·rename_i hk
   refine .rptr key tot i off _ v h0 (cut_get h1 hk) h2 (by simpa[cut_len]using h3) fun e=>?_
   exact h4 (by simpa[cut_len]using e)
  ·exact .junk _
 |eptr el off b o val h0 h1 h2=>exact RepV.eptr_any (ImLe.refl _ _) (.eptr el off b o val h0 h1 h2)
 |agg ds vs h1 h2=>exact .junk _
 |tup ds vs h1 h2=>exact .junk _
 |junk v=>exact .junk v
theorem low1_rep{w:World}{g:Ghost}{st:St}{k:Nat}{d:D}{v:Value}(h:RepV w g st d v):RepV w g (cut k st) (low1 k d) v:=by
 cases d with
 |clo f l=>
  cases h with
  |clo _ _ vs h1 h2=>
   refine .clo f _ vs (by simpa using h1) fun i d v hd hv=>?_
   simp only[List.getElem?_map,Option.map_eq_some_iff]at hd
   obtain⟨d0,h3,rfl⟩:=hd
   exact low0_rep (h2 i d0 v h3 hv)
 |_=>exact low0_rep h
theorem low_rep{w:World}{g:Ghost}{st:St}{k:Nat}{d:D}{v:Value}(h:RepV w g st d v):RepV w g (cut k st) (low k d) v:=by
 cases d with
 |agg l=>
  cases h with
  |agg _ vs h1 h2=>
   refine .agg _ vs (by simpa using h1) fun i d v hd hv=>?_
   simp only[List.getElem?_map,Option.map_eq_some_iff]at hd
   obtain⟨d0,h3,rfl⟩:=hd
   exact low1_rep (h2 i d0 v h3 hv)
 |tup l=>exact .junk _
 |_=>exact low1_rep h
theorem low1_cells(k:Nat)(d:D):(low1 k d).cells=[low1 k d]:=by
 cases d <;> simp only[low1,low0] <;> first | rfl | (split <;> rfl)
theorem one_not_agg{x:D}(h:x.cells=[x])(l:List D):x≠.agg l:=by
 rintro rfl
 have h:l=[.agg l]:=h
 have:=congrArg (fun l:List D=>SizeOf.sizeOf l) h
 simp at this
 omega
theorem low_eq(k:Nat){d:D}(h:d.cells=[d]):low k d=low1 k d:=by
 cases d with
 |agg l=>exact absurd rfl (one_not_agg h l)
 |_=>rfl
theorem low_cells(k:Nat){d:D}(h:d.cells=[d]):(low k d).cells=[low k d]:=by rw[low_eq k h]; exact low1_cells k d
theorem ent_map{w w':World}{g g':Ghost}{st st':St}{f1:D→D}(h1:∀ d v,RepV w g st d v→RepV w' g' st' (f1 d) v){l:List D}{sz:Nat}(hl:l.length=mS sz)(hs:1<mS sz){kv vv:Value}
  (hk:RepV w g st (entK sz (.agg l)) kv) (hv:RepV w g st (entV sz (.agg l)) vv):RepV w' g' st' (entK sz (.agg (l.map f1))) kv∧RepV w' g' st' (entV sz (.agg (l.map f1))) vv:=by
 constructor
 ·by_cases h2:mS sz=2
  ·rw[h2]at hl
   match l,hl with
   |[a,b],_=>
    have e:∀ x y:D,entK sz (.agg [x,y])=x:=fun x y=>by simp[entK,D.mk,h2]
    rw[e]at hk
    show RepV w' g' st' (entK sz (.agg [f1 a,f1 b])) kv
    rw[e]
    exact h1 _ _ hk
  ·have e:∀ l,entK sz (.agg l)=.agg (l.take (mS sz - 1)):=fun l=>by simp[entK,D.mk,h2]
   rw[e]at hk ⊢
   cases hk with
   |agg _ vs q1 q2=>
    rw[← List.map_take]
    refine .agg _ vs (by simpa using q1) fun i d v hd hv=>?_
    simp only[List.getElem?_map,Option.map_eq_some_iff]at hd
    obtain⟨d0,h3,rfl⟩:=hd
    exact h1 _ _ (q2 i d0 v h3 hv)
 ·have hd:∃ x,l.drop (mS sz - 1)=[x]:=by
   have:(l.drop (mS sz - 1)).length=1:=by rw[List.length_drop]; omega
   match l.drop (mS sz - 1),this with
   |[x],_=>exact⟨x,rfl⟩
  obtain⟨x,hx⟩:=hd
  simp only[entV,← List.map_drop,hx]at hv ⊢
  split at hv
  ·rename_i hm
   rw[if_pos hm]
   cases hv with
   |agg _ vs q1 q2=>
    refine .agg _ vs (by simpa using q1) fun i d v hd hv=>?_
    match i,hd with
    |0,hd=>
     obtain rfl:=Option.some.inj hd
     exact h1 _ _ (q2 0 _ v rfl hv)
  ·rename_i hm
   rw[if_neg hm]
   exact h1 _ _ hv
theorem entK_stays{f1:D→D}(h1:∀ d:D,d.noRef1=true→f1 d=d){l:List D}{sz:Nat}(hn:(l.take (mS sz - 1)).all D.noRef1=true):entK sz (.agg (l.map f1))=entK sz (.agg l)∧((l.map f1).take (mS sz - 1)).all D.noRef1=true:=by
 have e:(l.map f1).take (mS sz - 1)=l.take (mS sz - 1):=by
  rw[← List.map_take]
  exact(List.map_congr_left fun d hd=>h1 d (List.all_eq_true.1 hn d hd)).trans (List.map_id _)
 exact⟨by simp only[entK,e],by rw[e]; exact hn⟩
theorem low1_stays(k:Nat)(d:D)(h:d.noRef1=true):low1 k d=d:=by cases d <;> first | rfl | (cases h; done)
theorem ren1_stays(n:Nat)(σ:List Nat)(d:D)(h:d.noRef1=true):ren1 n σ d=d:=by cases d <;> first | rfl | (cases h; done)
theorem MapAt.mkRec{base:Nat}{w:World}{g:Ghost}{st:St}{b:Nat}{o:Obj}(hs:o.sz=1000003)(h:RecAt base w b o):MapAt base w g st b o:=by
 unfold MapAt; rwa [if_pos hs]
theorem MapAt.mkOld{base:Nat}{w:World}{g:Ghost}{st:St}{b:Nat}{o:Obj}(hs:o.sz≠1000003)(h:MapAt0 base w g st b o):MapAt base w g st b o:=by
 unfold MapAt; rwa [if_neg hs]
theorem cut_sr{base:Nat}{w:World}{g:Ghost}{st:St}(h:SR base w g st)(k:Nat):SR base w g (cut k st):=by
 refine⟨?_,?_,?_,h.im,?_,h.size⟩
 ·intro i o' hi hm
  obtain⟨hik,o,ho,rfl⟩:=cut_inv hi
  have hm:o.isMap=true:=hm
  have hr:o.row=false:=isMap_row hm
  have hmp:=h.mp i o ho hm
  by_cases hs:o.sz=1000003
  ·obtain⟨r,n,a1,a2,a3,a4⟩:=hmp.rec' hs
   refine MapAt.mkRec hs ⟨r,n,a1,a2,by simp[hr,a3,low,low1,low0],a4⟩
  obtain⟨es,clock,h1,h2,⟨p,hp,h3,h5⟩,⟨h0,h4⟩,h7,h8⟩:=hmp.old hs
  refine MapAt.mkOld hs ?_
  have hpm:∀ {i:Nat} {el:D},p[i]?=some el→el∈o.els:=fun h=>hp.mem_iff.1 (List.mem_of_getElem? h)
  refine⟨es,clock,h1,h2,⟨p.map (low k),?_,by rw[List.length_map]; exact h3,?_⟩,⟨h0,?_⟩,?_,h8⟩
  ·simp only[hr,Bool.false_eq_true,if_false]; exact hp.map _
  ·intro j e el he hel
   simp only[List.getElem?_map,Option.map_eq_some_iff]at hel
   obtain⟨el0,hel0,rfl⟩:=hel
   obtain⟨l,rfl,hl,_⟩:=h4 el0 (hpm hel0)
   have h6:=h5 j e _ he hel0
   exact ent_map (fun d v h=>low1_rep h) hl h0 h6.1 h6.2
  ·intro x hx
   simp only[hr,Bool.false_eq_true,if_false,List.mem_map]at hx
   obtain⟨y,hy,rfl⟩:=hx
   obtain⟨l,rfl,hl,hn⟩:=h4 y hy
   exact⟨_,rfl,by rw[List.length_map]; exact hl,(entK_stays (low1_stays k) hn).2⟩
  ·have e:(o.els.map (low k)).map (entK o.sz)=o.els.map (entK o.sz):=by
    rw[List.map_map]
    refine List.map_congr_left fun y hy=>?_
    obtain⟨l,rfl,hl,hn⟩:=h4 y hy
    exact(entK_stays (low1_stays k) hn).1
   simp only[hr,Bool.false_eq_true,if_false]
   rw[e]; exact h7
 ·intro i o' hi hm
  obtain⟨hik,o,ho,rfl⟩:=cut_inv hi
  have hm:o.isMap=false:=hm
  obtain⟨C,e,hb,hbase,hszp,hx,hC,hrep⟩:=h.blk i o ho hm
  refine⟨C,e,hb,hbase,hszp,?_,?_,?_⟩
  ·intro x hxm
   by_cases hr:o.row=true
   ·simp only[hr,if_true]at hxm; exact hx x hxm
   ·simp only[hr,Bool.false_eq_true,if_false,List.mem_map]at hxm
    simp only[hr,Bool.false_eq_true,if_false]at hC
    obtain⟨y,hy,rfl⟩:=hxm
    rw[low_cells k (hC.2.2 y hy),hC.2.1]; rfl
  ·by_cases hr:o.row=true
   ·simp only[hr,if_true]at hC ⊢; exact hC
   ·simp only[hr,Bool.false_eq_true,if_false]at hC ⊢
    refine⟨by simpa using hC.1,hC.2.1,fun x hxm=>?_⟩
    simp only[List.mem_map]at hxm
    obtain⟨y,hy,rfl⟩:=hxm
    exact low_cells k (hC.2.2 y hy)
  ·intro i' j d hd
   by_cases hr:o.row=true
   ·simp only[hr,if_true]at hd
    obtain⟨h1,v,h2,h3⟩:=hrep i' j d hd
    exact⟨h1,v,h2,h3.pure (ImLe.refl _ _) (h1 hr)⟩
   ·simp only[hr,Bool.false_eq_true,if_false]at hd hC
    obtain⟨e',he,hj⟩:=cellAt_some hd
    simp only[List.getElem?_map,Option.map_eq_some_iff]at he
    obtain⟨e0,he0,rfl⟩:=he
    rw[low_cells k (hC.2.2 e0 (List.mem_of_getElem? he0))]at hj
    have hj0:j=0∧d=low k e0:=by
     cases j with
     |zero=>simp at hj; exact⟨rfl,hj.symm⟩
     |succ j=>simp at hj
    obtain⟨rfl,rfl⟩:=hj0
    obtain⟨_,v,h2,h3⟩:=hrep i' 0 e0 (cellAt_mk he0 (by rw[hC.2.2 e0 (List.mem_of_getElem? he0)]; rfl))
    exact⟨fun e=>absurd e hr,v,h2,low_rep h3⟩
 ·intro k1 k2 o1 o2 h1 h2 he
  obtain⟨_,p1,q1,_⟩:=cut_inv h1
  obtain⟨_,p2,q2,_⟩:=cut_inv h2
  exact h.inj _ _ _ _ q1 q2 he
 ·intro k1 o1 x h1 hi
  obtain⟨_,p1,q1,rfl⟩:=cut_inv h1
  have:=h.dis _ _ _ q1 hi
  exact⟨this.1,by simpa[cut_len]using this.2⟩
def posn(n:Nat)(σ:List Nat)(j:Nat):Nat:=if j<n then j else σ.getD (j - n) 0
def gRen(n:Nat)(σ:List Nat)(g:Ghost):Ghost:={β:=fun j=>g.β (posn n σ j),γ:=fun j=>g.γ (posn n σ j),Im:=g.Im}
theorem posIn_spec:∀ (σ:List Nat) (b key j:Nat),posIn σ b key=some j→b≤j∧σ[j - b]?=some key
 |[],_,_,_,h=>by cases h
 |k::r,b,key,j,h=>by
  simp only[posIn]at h
  split at h
  ·rename_i e
   simp only[Option.some.injEq]at h
   subst h; subst e
   exact⟨Nat.le_refl _,by simp⟩
  ·obtain⟨h1,h2⟩:=posIn_spec r (b+1) key j h
   refine⟨by omega,?_⟩
   rw[show j - b=(j - (b+1))+1 by omega,List.getElem?_cons_succ]
   exact h2
theorem renK_posn{n:Nat}{σ:List Nat}{key j:Nat}(h:renK n σ key=some j):posn n σ j=key∧(j<n∨(n≤j∧σ[j - n]?=some key)):=by
 unfold renK at h
 split at h
 ·rename_i hk
  simp only[Option.some.injEq]at h
  subst h
  exact⟨by simp[posn,hk],.inl hk⟩
 ·obtain⟨h1,h2⟩:=posIn_spec σ n key j h
  exact⟨by simp[posn,Nat.not_lt.2 h1,List.getD_eq_getElem?_getD,h2],.inr ⟨h1,h2⟩⟩
theorem renO_len(n:Nat)(σ:List Nat)(o:Obj):(renO n σ o).els.length=o.els.length:=by
 simp only[renO]; split <;> simp
theorem picked_get{n:Nat}{σ:List Nat}{st:St}(hn:n≤st.length){key j:Nat}{o:Obj}(h:renK n σ key=some j)(ho:st[key]?=some o):(picked n σ st)[j]?=some (renO n σ o):=by
 obtain⟨h1,h2⟩:=renK_posn h
 have hl:((st.take n).map (renO n σ)).length=n:=by simp; omega
 rcases h2 with h2 | ⟨h2,h3⟩
 ·have:j=key:=by rw[← h1]; simp[posn,h2]
  subst this
  rw[picked,List.getElem?_append_left (by omega)]
  simp[h2,ho]
 ·rw[picked,List.getElem?_append_right (by omega),hl]
  simp[h3,List.getD_eq_getElem?_getD,ho]
theorem picked_inv{n:Nat}{σ:List Nat}{st:St}(hn:n≤st.length)(hσ:∀ k∈σ,k<st.length){j:Nat}{o':Obj}(h:(picked n σ st)[j]?=some o') :
  ∃ o,st[posn n σ j]?=some o∧o'=renO n σ o∧(j<n∨(n≤j∧σ[j - n]?=some (posn n σ j))):=by
 have hl:((st.take n).map (renO n σ)).length=n:=by simp; omega
 rcases Nat.lt_or_ge j n with hj | hj
 ·rw[picked,List.getElem?_append_left (by omega)]at h
  simp only[List.getElem?_map,List.getElem?_take,hj,if_true,Option.map_eq_some_iff]at h
  obtain⟨o,h1,h2⟩:=h
  exact⟨o,by simpa[posn,hj]using h1,h2.symm,.inl hj⟩
 ·rw[picked,List.getElem?_append_right (by omega),hl]at h
  simp only[List.getElem?_map,Option.map_eq_some_iff]at h
  obtain⟨k,h1,h2⟩:=h
  have hk:=hσ k (List.mem_of_getElem? h1)
  have hp:posn n σ j=k:=by simp[posn,Nat.not_lt.2 hj,List.getD_eq_getElem?_getD,h1]
  refine⟨st[k],by rw[hp,List.getElem?_eq_getElem hk],?_,.inr ⟨hj,by rw[hp]; exact h1⟩⟩
  rw[← h2]
  simp[List.getD_eq_getElem?_getD,List.getElem?_eq_getElem hk]
theorem orJunk_rep{w:World}{g:Ghost}{st:St}{f:Nat→D}{o:Option Nat}{v:Value}(h:∀ j,o=some j→RepV w g st (f j) v):RepV w g st (orJunk f o) v:=by
 cases o with
 |none=>exact .junk _
 |some j=>exact h j rfl
theorem ren0_rep{w:World}{g:Ghost}{st:St}{n:Nat}{σ:List Nat}(hn:n≤st.length){d:D}{v:Value}(h:RepV w g st d v):RepV w (gRen n σ g) (picked n σ st) (ren0 n σ d) v:=by
 have hI:ImLe w g w (gRen n σ g):=⟨fun b o h=>⟨h,rfl⟩,fun _ _ h _=>h⟩
 cases h with
 |int k n=>exact .int k n
 |bool b=>exact .bool b
 |str s=>exact .str s
 |nilp=>exact .nilp
 |nilm=>exact .nilm
 |gmap es b ents clock h1 h2 h3=>exact .gmap es b ents clock h1 h2 h3
 |nilf=>exact .nilf
 |slcE sz t a cap h=>exact .slcE sz t a cap h
 |slc els t b off cap sz val h1 h2 h3 h3' h4 h5 h6 h7=>exact RepV.pure hI (.slc els t b off cap sz val h1 h2 h3 h3' h4 h5 h6 h7) rfl
 |clo f ds vs h1 h2=>exact .junk _
 |row key tot off len o v h0 h1 h2 h3 h4=>
  refine orJunk_rep fun j hj=>?_
  refine .row j tot off len _ v h0 (picked_get hn hj h1) h2 (by rw[renO_len]; exact h3) fun e=>?_
  have:=h4 (by rw[renO_len]at e; exact e)
  simp only[gRen,(renK_posn hj).1]
  exact this
 |bsl key off m sz ag o cap h1 h2 h3 h4=>
  refine orJunk_rep fun j hj=>?_
  have:=RepV.bsl (w:=w) (g:=gRen n σ g) j off m sz ag _ cap (picked_get (σ:=σ) hn hj h1) h2 h3 h4
  simp only[gRen,(renK_posn hj).1]at this
  exact this
 |mapv key o h1 h2=>
  refine orJunk_rep fun j hj=>?_
  have:=RepV.mapv (w:=w) (g:=gRen n σ g) j _ (picked_get (σ:=σ) hn hj h1) h2
  simp only[gRen,(renK_posn hj).1]at this
  exact this
 |ptr key off o h1 h2 h3=>
  refine orJunk_rep fun j hj=>?_
  have:=RepV.ptr (w:=w) (g:=gRen n σ g) j off _ (picked_get (σ:=σ) hn hj h1) h2 h3
  simp only[gRen,(renK_posn hj).1]at this
  exact this
 |rptr key tot i off o v h0 h1 h2 h3 h4=>
  refine orJunk_rep fun j hj=>?_
  refine .rptr j tot i off _ v h0 (picked_get hn hj h1) h2 (by rw[renO_len]; exact h3) fun e=>?_
  have:=h4 (by rw[renO_len]at e; exact e)
  simp only[gRen,(renK_posn hj).1]
  exact this
 |eptr el off b o val h0 h1 h2=>exact RepV.eptr_any hI (.eptr el off b o val h0 h1 h2)
 |agg ds vs h1 h2=>exact .junk _
 |tup ds vs h1 h2=>exact .junk _
 |junk v=>exact .junk v
theorem ren1_rep{w:World}{g:Ghost}{st:St}{n:Nat}{σ:List Nat}(hn:n≤st.length){d:D}{v:Value}(h:RepV w g st d v):RepV w (gRen n σ g) (picked n σ st) (ren1 n σ d) v:=by
 cases d with
 |clo f l=>
  cases h with
  |clo _ _ vs h1 h2=>
   refine .clo f _ vs (by simpa using h1) fun i d v hd hv=>?_
   simp only[List.getElem?_map,Option.map_eq_some_iff]at hd
   obtain⟨d0,h3,rfl⟩:=hd
   exact ren0_rep hn (h2 i d0 v h3 hv)
 |_=>exact ren0_rep hn h
theorem ren_rep{w:World}{g:Ghost}{st:St}{n:Nat}{σ:List Nat}(hn:n≤st.length){d:D}{v:Value}(h:RepV w g st d v):RepV w (gRen n σ g) (picked n σ st) (ren n σ d) v:=by
 cases d with
 |agg l=>
  cases h with
  |agg _ vs h1 h2=>
   refine .agg _ vs (by simpa using h1) fun i d v hd hv=>?_
   simp only[List.getElem?_map,Option.map_eq_some_iff]at hd
   obtain⟨d0,h3,rfl⟩:=hd
   exact ren1_rep hn (h2 i d0 v h3 hv)
 |tup l=>exact .junk _
 |_=>exact ren1_rep hn h
theorem ren1_cells(n:Nat)(σ:List Nat)(d:D):(ren1 n σ d).cells=[ren1 n σ d]:=by
 cases d <;> simp only[ren1,ren0,orJunk] <;> first | rfl | (split <;> rfl)
theorem ren_eq(n:Nat)(σ:List Nat){d:D}(h:d.cells=[d]):ren n σ d=ren1 n σ d:=by
 cases d with
 |agg l=>exact absurd rfl (one_not_agg h l)
 |_=>rfl
theorem ren_cells(n:Nat)(σ:List Nat){d:D}(h:d.cells=[d]):(ren n σ d).cells=[ren n σ d]:=by rw[ren_eq n σ h]; exact ren1_cells n σ d
theorem uniq_spec(lo hi:Nat):∀ (l acc:List Nat),(acc.Nodup∧∀ k∈acc,lo≤k∧k<hi)→(uniq lo hi l acc).Nodup∧∀ k∈uniq lo hi l acc,lo≤k∧k<hi
 |[],_,h=>h
 |k::r,acc,h=>by
  simp only[uniq]
  refine uniq_spec lo hi r _ ?_
  split
  ·rename_i hk
   refine⟨?_,fun q hq=>?_⟩
   ·rw[List.nodup_append]
    refine⟨h.1,by simp,fun a ha b hb e=>?_⟩
    simp only[List.mem_singleton]at hb
    subst hb; subst e
    have:=hk.2.2
    simp[ha]at this
   ·simp only[List.mem_append,List.mem_singleton]at hq
    rcases hq with hq | rfl
    ·exact h.2 q hq
    ·exact⟨hk.1,hk.2.1⟩
  ·exact h
theorem picked_sr{base:Nat}{w:World}{g:Ghost}{st:St}(h:SR base w g st){n:Nat}{σ:List Nat}(hn:n≤st.length)(hd:σ.Nodup)(hσ:∀ k∈σ,n≤k∧k<st.length):SR base w (gRen n σ g) (picked n σ st):=by
 have inv:=fun {j:Nat} {o':Obj} (h:(picked n σ st)[j]?=some o')=>picked_inv hn (fun k hk=>(hσ k hk).2) h
 refine⟨?_,?_,?_,h.im,?_,h.size⟩
 ·intro i o' hi hm
  obtain⟨o,ho,rfl,hpos⟩:=inv hi
  have hm:o.isMap=true:=hm
  have hr:o.row=false:=isMap_row hm
  have hmp:=h.mp _ o ho hm
  by_cases hs:o.sz=1000003
  ·obtain⟨r,n,a1,a2,a3,a4⟩:=hmp.rec' hs
   refine MapAt.mkRec hs ⟨r,n,a1,a2,by simp[renO,hr,a3,ren,ren1,ren0],a4⟩
  obtain⟨es,clock,h1,h2,⟨p,hp,h3,h5⟩,⟨h0,h4⟩,h7,h8⟩:=hmp.old hs
  refine MapAt.mkOld hs ?_
  have hpm:∀ {i:Nat} {el:D},p[i]?=some el→el∈o.els:=fun h=>hp.mem_iff.1 (List.mem_of_getElem? h)
  refine⟨es,clock,h1,h2,⟨p.map (ren n σ),?_,by rw[List.length_map]; exact h3,?_⟩,⟨h0,?_⟩,?_,h8⟩
  ·simp only[renO,hr,Bool.false_eq_true,if_false]; exact hp.map _
  ·intro j e el he hel
   simp only[List.getElem?_map,Option.map_eq_some_iff]at hel
   obtain⟨el0,hel0,rfl⟩:=hel
   obtain⟨l,rfl,hl,_⟩:=h4 el0 (hpm hel0)
   have h6:=h5 j e _ he hel0
   exact ent_map (fun d v h=>ren1_rep hn h) hl h0 h6.1 h6.2
  ·intro x hx
   simp only[renO,hr,Bool.false_eq_true,if_false,List.mem_map]at hx
   obtain⟨y,hy,rfl⟩:=hx
   obtain⟨l,rfl,hl,hn⟩:=h4 y hy
   exact⟨_,rfl,by rw[List.length_map]; exact hl,(entK_stays (ren1_stays n σ) hn).2⟩
  ·have e:(o.els.map (ren n σ)).map (entK o.sz)=o.els.map (entK o.sz):=by
    rw[List.map_map]
    refine List.map_congr_left fun y hy=>?_
    obtain⟨l,rfl,hl,hn⟩:=h4 y hy
    exact(entK_stays (ren1_stays n σ) hn).1
   simp only[renO,hr,Bool.false_eq_true,if_false]
   rw[e]; exact h7
 ·intro i o' hi hm
  obtain⟨o,ho,rfl,hpos⟩:=inv hi
  have hm:o.isMap=false:=hm
  obtain⟨C,e,hb,hbase,hszp,hx,hC,hrep⟩:=h.blk _ o ho hm
  refine⟨C,e,hb,hbase,hszp,?_,?_,?_⟩
  ·intro x hxm
   simp only[renO]at hxm ⊢
   by_cases hr:o.row=true
   ·simp only[hr,if_true]at hxm; exact hx x hxm
   ·simp only[hr,Bool.false_eq_true,if_false,List.mem_map]at hxm
    simp only[hr,Bool.false_eq_true,if_false]at hC
    obtain⟨y,hy,rfl⟩:=hxm
    rw[ren_cells n σ (hC.2.2 y hy),hC.2.1]; rfl
  ·simp only[renO]
   by_cases hr:o.row=true
   ·simp only[hr,if_true]at hC ⊢; exact hC
   ·simp only[hr,Bool.false_eq_true,if_false]at hC ⊢
    refine⟨by simpa using hC.1,hC.2.1,fun x hxm=>?_⟩
    simp only[List.mem_map]at hxm
    obtain⟨y,hy,rfl⟩:=hxm
    exact ren_cells n σ (hC.2.2 y hy)
  ·intro i' j d hd'
   simp only[renO]at hd' ⊢
   by_cases hr:o.row=true
   ·simp only[hr,if_true]at hd'
    obtain⟨h1,v,h2,h3⟩:=hrep i' j d hd'
    exact⟨h1,v,h2,RepV.pure (g:=g) (g':=gRen n σ g) ⟨fun b o h=>⟨h,rfl⟩,fun _ _ h _=>h⟩ h3 (h1 hr)⟩
   ·simp only[hr,Bool.false_eq_true,if_false]at hd' hC
    obtain⟨e',he,hj⟩:=cellAt_some hd'
    simp only[List.getElem?_map,Option.map_eq_some_iff]at he
    obtain⟨e0,he0,rfl⟩:=he
    rw[ren_cells n σ (hC.2.2 e0 (List.mem_of_getElem? he0))]at hj
    have hj0:j=0∧d=ren n σ e0:=by
     cases j with
     |zero=>simp at hj; exact⟨rfl,hj.symm⟩
     |succ j=>simp at hj
    obtain⟨rfl,rfl⟩:=hj0
    obtain⟨_,v,h2,h3⟩:=hrep i' 0 e0 (cellAt_mk he0 (by rw[hC.2.2 e0 (List.mem_of_getElem? he0)]; rfl))
    exact⟨fun e=>absurd e hr,v,h2,ren_rep hn h3⟩
 ·intro k1 k2 o1 o2 h1 h2 he
  obtain⟨p1,q1,_,r1⟩:=inv h1
  obtain⟨p2,q2,_,r2⟩:=inv h2
  have e:=h.inj _ _ _ _ q1 q2 he
  rcases r1 with r1 | ⟨r1,s1⟩ <;> rcases r2 with r2 | ⟨r2,s2⟩
  ·simpa[posn,r1,r2]using e
  ·have:=(hσ _ (List.mem_of_getElem? s2)).1
   rw[← e]at this
   simp only[posn,r1,if_true]at this
   omega
  ·have:=(hσ _ (List.mem_of_getElem? s1)).1
   rw[e]at this
   simp only[posn,r2,if_true]at this
   omega
  ·rw[e]at s1
   have h3:=(List.getElem?_inj (List.getElem?_eq_some_iff.1 s1).1 hd).1 (s1.trans s2.symm)
   omega
 ·intro k1 o1 x h1 hi
  obtain⟨o,q1,rfl,_⟩:=inv h1
  have:=h.dis _ _ _ q1 hi
  exact⟨this.1,by rw[renO_len]; exact this.2⟩
theorem mkF_rep{w:World}{g:Ghost}{st:St}{n:Nat}{σ:List Nat}(hn:n≤st.length){fr:Frame}{a:Act}(h:FR w g st fr a):∀ (keep:List Nat),FR w (gRen n σ g) (picked n σ st) (mkF (keep.map fun q=>(q,ren n σ (fr q)))) a
 |[],_=>.junk _
 |q::r,s=>by
  simp only[List.map_cons,mkF]
  split
  ·rename_i e; subst e; exact ren_rep hn (h s)
  ·exact mkF_rep hn h r s
theorem Evo.len{g g':Ghost}{st st':St}(h:Evo g st g' st'):st.length≤st'.length:=by
 rcases Nat.lt_or_ge st'.length st.length with h1 | h1
 ·obtain⟨o',h2,_⟩:=h st'.length st[st'.length] (List.getElem?_eq_getElem h1)
  rw[List.getElem?_eq_none (Nat.le_refl _)]at h2
  cases h2
 ·exact h1
theorem Evo.cut{g g':Ghost}{st st':St}(h:Evo g st g' st'){k:Nat}(hk:st.length≤k):Evo g st g' (PI.cut k st'):=by
 intro i o hi
 obtain⟨o',h1,h2,h3,h4,h5,h6⟩:=h i o hi
 have:i<st.length:=(List.getElem?_eq_some_iff.1 hi).1
 exact⟨_,cut_get h1 (by omega),h2,h3,by simpa[cut_len]using h4,fun e=>h5 (by simpa[cut_len]using e),h6⟩
theorem Go1.cut{w w':World}{g g':Ghost}{st st':St}(h:Go1 base w g st w' g' st'){k:Nat}(hk:st.length≤k):Go1 base w g st w' g' (PI.cut k st'):=
 ⟨cut_sr h.sr k,h.evo.cut hk,h.im,h.new,h.below,h.kp⟩
theorem Go1.picked{w w':World}{g g':Ghost}{st st':St}(h:Go1 base w g st w' g' st'){n:Nat}{σ:List Nat}(hk:st.length≤n)(hn:n≤st'.length)(hd:σ.Nodup)(hσ:∀ k∈σ,n≤k∧k<st'.length):Go1 base w g st w' (gRen n σ g') (PI.picked n σ st'):=by
 refine⟨picked_sr h.sr hn hd hσ,?_,⟨h.im.im,h.im.kp⟩,h.new,h.below,h.kp⟩
 intro i o hi
 obtain⟨o',h1,h2,h3,h4,h5,h6⟩:=h.evo i o hi
 have hlt:i<st.length:=(List.getElem?_eq_some_iff.1 hi).1
 have hp:posn n σ i=i:=by simp[posn,show i<n by omega]
 refine⟨_,picked_get (key:=i) (j:=i) hn (by simp[renK,show i<n by omega]) h1,h2,h3,by rw[renO_len]; exact h4,fun e=>?_,fun e=>?_⟩
 ·simp only[gRen,hp]; exact h5 (by rw[renO_len]at e; exact e)
 ·simp only[gRen,hp]; exact h6 e
theorem R.restrict{s:PS}{a:Act}{w:World}(h:R G base n w0 g0 st0 dl s a w)(keep:List Nat)(k:Nat)(hk:st0.length≤k):R G base n w0 g0 st0 dl (restrict keep k s) a w:=by
 obtain⟨g,h⟩:=h
 unfold PI.restrict
 generalize hm:(if k≤s.st.length then k else s.st.length)=m
 have hm1:m≤s.st.length:=by rw[← hm]; split <;> omega
 have hm2:st0.length≤m:=by
  have:=h.go1.evo.len
  rw[← hm]; split <;> omega
 generalize hl:uniq m s.st.length (keysIn keep m s) []=σ
 have hσ:=uniq_spec m s.st.length (keysIn keep m s) [] ⟨List.nodup_nil,fun _ h=>by cases h⟩
 rw[hl]at hσ
 exact⟨gRen m σ g,h.go1.picked hm2 hm1 hσ.1 hσ.2,mkF_rep hm1 h.fr keep,h.gl.mono ⟨fun b o h=>⟨h,rfl⟩,fun _ _ h _=>h⟩,h.df,h.sz⟩
theorem keepF_rep{w:World}{g:Ghost}{st:St}{fr:Frame}{a:Act}(h:FR w g st fr a):∀ (keep:List Nat),FR w g st (mkF (keep.map fun q=>(q,fr q))) a
 |[],_=>.junk _
 |q::r,s=>by
  simp only[List.map_cons,mkF]
  split
  ·rename_i e; subst e; exact h s
  ·exact keepF_rep h r s
theorem R.keepAll{s:PS}{a:Act}{w:World}(h:R G base n w0 g0 st0 dl s a w)(keep:List Nat):R G base n w0 g0 st0 dl (PI.keepAll keep s) a w:=by
 obtain⟨g,h⟩:=h
 exact⟨g,h.go1,keepF_rep h.fr keep,h.gl,h.df,h.sz⟩
theorem R.restrictAt{s:PS}{a:Act}{w:World}(h:R G base n w0 g0 st0 dl s a w)(keep:List Nat)(m:Nat)(σ:List Nat)(hm1:m≤s.st.length)(hm2:st0.length≤m)(hd:σ.Nodup)(hσ:∀ k∈σ,m≤k∧k<s.st.length):R G base n w0 g0 st0 dl (restrictAt keep m σ s) a w:=by
 obtain⟨g,h⟩:=h
 exact⟨gRen m σ g,h.go1.picked hm2 hm1 hd hσ,mkF_rep hm1 h.fr keep,h.gl.mono ⟨fun b o h=>⟨h,rfl⟩,fun _ _ h _=>h⟩,h.df,h.sz⟩
theorem zok_of{ops:Array Oper}{l:List PI}{bad:Option (Nat×Nat)}{ord:List Nat}(hord:isOrd ops.size ord=true){F:List (Option Foot)}(hF:F.length=ord.length)
  (hp:∀ (p q i j:Nat),q<p→ord[p]?=some i→ord[q]?=some j→((masks ops.toList []).getD i 0).testBit j=false→bad≠some (j,i)→Pair (l.getD j default,F.getD q none) (l.getD i default,F.getD p none)) :
  ZOK (masks ops.toList []) l ops.size bad (ord.zip F)∧(∀ z∈ord.zip F,z.1<ops.size)∧(∀ (listed:Array Bool),(∀ i,i<ops.size→listed.getD i true=false)→Zof l (restOf listed (ord.zip F))=(ord.map fun k=>l.getD k default).zip F):=by
 simp only[isOrd,Bool.and_eq_true,beq_iff_eq,List.all_eq_true,List.mem_range]at hord
 obtain⟨h1,h2⟩:=hord
 have hsub:∀ x∈List.range ops.size,x∈ord:=fun x hx=>by simpa using h2 x (List.mem_range.1 hx)
 have hperm:ord.Perm (List.range ops.size):=(permSub _ _ List.nodup_range hsub (by rw[List.length_range]; omega)).symm
 have hnd:ord.Nodup:=hperm.nodup_iff.2 List.nodup_range
 have hlt:∀ k∈ord,k<ops.size:=fun k hk=>List.mem_range.1 (hperm.mem_iff.1 hk)
 have hmap:(ord.zip F).map (·.1)=ord:=by
  rw[List.map_fst_zip (by omega)]
 refine⟨⟨by rw[hmap]; exact hnd,?_,?_⟩,?_,?_⟩
 ·intro k hk
  have:k∈(ord.zip F).map (·.1):=by rw[hmap]; exact hsub k (List.mem_range.2 hk)
  obtain⟨z,hz,rfl⟩:=List.mem_map.1 this
  exact⟨z.2,hz⟩
 ·rw[List.pairwise_iff_getElem]
  intro q p hq hp' hqp hm hb
  have hq1:q<ord.length:=by simp at hq; omega
  have hp1:p<ord.length:=by simp at hp'; omega
  have e1:F.getD q none=F[q]:=by simp[List.getD_eq_getElem?_getD,show q<F.length by omega]
  have e2:F.getD p none=F[p]:=by simp[List.getD_eq_getElem?_getD,show p<F.length by omega]
  have:=hp p q ord[p] ord[q] hqp (List.getElem?_eq_getElem hp1) (List.getElem?_eq_getElem hq1)
  rw[e1,e2]at this
  simp only[List.getElem_zip]at hm hb ⊢
  exact this hm hb
 ·intro z hz
  exact hlt z.1 (by rw[← hmap]; exact List.mem_map_of_mem hz)
 ·intro listed hu
  have:restOf listed (ord.zip F)=ord.zip F:=by
   simp only[restOf,List.filter_eq_self]
   intro z hz
   rw[hu z.1 (hlt z.1 (by rw[← hmap]; exact List.mem_map_of_mem hz))]
   rfl
  rw[this,Zof]
  apply List.ext_getElem?
  intro i
  rcases Nat.lt_or_ge i ord.length with h3 | h3
  ·have h4:i<F.length:=by omega
   rw[List.getElem?_eq_getElem (by simp; omega),List.getElem?_eq_getElem (by simp; omega)]
   simp
  ·rw[List.getElem?_eq_none (by simp; omega),List.getElem?_eq_none (by simp; omega)]
def exOf:Ex→Exit
 |.next=>.normal
 |.exit id=>.exit id
 |.ret=>.ret
 |.panic t d=>.panic (chainOf t d)
theorem list_code(hT:TblOK P G T)(hY:YOK P G T.y base w0 g0 st0){ops:Array Oper}{id:Nat}{draw:Bool}{h:List (List Nat)}{r:PC×List (List Nat)}(ht:trC P il n h (.region id ops draw)=some r){fuel:Nat}{s s':PS}{e:Ex}(hx:r.1.exec G T fuel s=some (e,s'))
  {a:Act} {w:World} (hR:R G base n w0 g0 st0 dl s a w) {Q:Exit→Act→World→Prop} (hQ:∀ a' w',R G base n w0 g0 st0 dl s' a' w'→Q (exOf e) a' w'):(Code.region id ops draw).wpIn (Wr ro) 0 P Q a w:=by
 have hrun:∀ l',r.1=.ops l'→e=.next∧execs G T l' s=some s':=by
  intro l' h1
  rw[h1]at hx
  simp only[PC.exec]at hx
  split at hx
  ·rename_i s1 hs1
   simp only[Option.some.injEq,Prod.mk.injEq]at hx
   obtain⟨rfl,rfl⟩:=hx
   exact⟨rfl,hs1⟩
  ·cases hx
 unfold trC at ht
 cases draw with
 |false=>
  simp only[Bool.false_eq_true,if_false]at ht
  split at ht
  ·rename_i pre d1 t xo hp
   obtain⟨o1,o2,hl,h1,h3,h2,hd1,hg1,hg2,u,hu,hne⟩:=trPan_spec hp
   split at ht
   case h_2=>
    simp only[Option.some.injEq]at ht
    subst ht
    simp[PC.exec]at hx
   rename_i l x hl' hx'
   simp only[Option.some.injEq]at ht
   subst ht
   simp only[PC.exec]at hx
   split at hx
   case h_2=>cases hx
   rename_i s1 hs1
   split at hx
   case isFalse=>cases hx
   rename_i hi
   simp only[Option.some.injEq,Prod.mk.injEq]at hx
   obtain⟨rfl,rfl⟩:=hx
   refine wpIn_region_list ?_
   rw[hl]
   exact list_simUR hT hY _ _ _ _ _ _ hl' hs1 hR fun a' w' hR'=>pan_sim hR' h1 h3 h2 hd1 hg1 hg2 hu hne hx' hi (fun a'' hR''=>hQ a'' w' hR'')
  ·simp only[Option.map_eq_some_iff]at ht
   obtain⟨l,hl,rfl⟩:=ht
   by_cases hxl:l.any (isX il)=true
   ·simp only[hxl,if_true,PC.exec]at hx
    split at hx
    ·rename_i s1 hs1
     simp only[Option.some.injEq,Prod.mk.injEq]at hx
     obtain⟨rfl,rfl⟩:=hx
     exact wpIn_region_list (list_simU hT hY _ _ _ _ _ _ hl hs1 hR hQ)
    ·simp only[Option.map_eq_some_iff,Prod.mk.injEq]at hx
     obtain⟨⟨t,d,s2⟩,hx,rfl,rfl⟩:=hx
     exact wpIn_region_list (list_simX hT hY _ _ _ _ _ _ hl hx hR hQ)
   ·obtain⟨rfl,hs⟩:=hrun l (by simp only[hxl,if_false,Bool.false_eq_true])
    exact wpIn_region_list (list_simU hT hY _ _ _ _ _ _ hl hs hR hQ)
 |true=>
  simp only[if_true]at ht
  split at ht
  case h_2=>cases ht
  rename_i l hl
  have hlen:=(trIs_get hl).1
  have hl':l.length=ops.size:=by simpa using hlen
  have hu:∀ i,i<ops.size→(Array.replicate ops.size false).getD i true=false:=by
   intro i hi
   simp[Array.getD,hi]
  have h0:(unlisted ops.size (Array.replicate ops.size false)).length≤ops.size:=by
   unfold unlisted
   exact Nat.le_trans (List.length_filter_le ..) (by simp)
  have hcl:Closed ops.toList (Array.replicate ops.size false):=by
   intro i o _ hi
   rcases Nat.lt_or_ge i ops.size with h1 | h1
   ·simp[Array.getD,h1]at hi
   ·simp[Array.getD,Nat.not_lt.2 h1]at hi
  have hrg:isOrd ops.size (List.range ops.size)=true:=by simp[isOrd]
  have hmr:(List.range ops.size).map (fun k=>l.getD k default)=l:=by
   apply List.ext_getElem?
   intro i
   rcases Nat.lt_or_ge i ops.size with h1 | h1
   ·simp[h1,hl',List.getD_eq_getElem?_getD]
   ·simp[Nat.not_lt.2 h1,hl']
  have hend:∀ (F:List (Option Foot)),F.length=l.length→Run G T (l.zip F) s s'→e=.next→P.follows .mixedOrders=true→lexical ops.toList=true→
    (∀ (i j:Nat) (x y:PI),l[j]?=some x→l[i]?=some y→j<i→((masks ops.toList []).getD i 0).testBit j=false→Pair (x,F.getD j none) (y,F.getD i none))→(Code.region id ops true).wpIn (Wr ro) 0 P Q a w:=by
   intro F hF hs he hmix hlex hp
   subst he
   obtain⟨k1,k2,k3⟩:=zok_of (l:=l) (bad:=none) hrg (F:=F) (by simp[hF,hl']) (fun p q i j hqp hi hj hm _=>by
    have hi1:=(List.getElem?_eq_some_iff.1 hi).1
    have hj1:=(List.getElem?_eq_some_iff.1 hj).1
    simp only[List.length_range]at hi1 hj1
    rw[List.getElem?_range hi1]at hi
    rw[List.getElem?_range hj1]at hj
    obtain rfl:=Option.some.inj hi
    obtain rfl:=Option.some.inj hj
    exact hp p q _ _ (by simp[List.getD_eq_getElem?_getD,hl',hj1]) (by simp[List.getD_eq_getElem?_getD,hl',hi1]) hqp hm)
   refine wpIn_region_any hmix (any_sim1 hT hY hl hlex k1 k2 hQ ops.size _ s a _ (by simp) h0 hcl ?_ hR.drew)
   rw[k3 _ hu,hmr]
   exact hs
  split at ht
  case isFalse=>
   simp only[Option.some.injEq]at ht
   subst ht
   simp[PC.exec]at hx
  rename_i hc
  simp only[Bool.and_eq_true]at hc
  have any2ok:∀ (x y:Nat) (keep:List Nat) (q1 q2:List (PI×Bool×List Nat)),anyOrd (masks ops.toList []) l (some (x,y)) (List.range ops.size)=some q1→anyOrd (masks ops.toList []) l (some (y,x)) (ord2 (masks ops.toList []) ops.size x y)=some q2→
    isOrd ops.size (ord2 (masks ops.toList []) ops.size x y)=true→x≠y→(∀ k,k=x∨k=y→k<ops.size)→PC.exec G T fuel (.any2 keep q1 q2) s=some (e,s')→(Code.region id ops true).wpIn (Wr ro) 0 P Q a w:=by
   intro x y keep q1 q2 hq1 hq2 hio hxy hin hz
   simp only[PC.exec]at hz
   split at hz
   case h_2=>cases hz
   rename_i s1 s2 hs1 hs2
   simp only[Option.map_eq_some_iff,Prod.mk.injEq]at hz
   obtain⟨s3,hz,rfl,rfl⟩:=hz
   unfold same2 at hz
   split at hz
   case isFalse=>cases hz
   rename_i hlen1
   obtain⟨hl1,hl2,heq⟩:=hlen1
   simp only[Option.some.injEq]at hz
   subst hz
   have hk:st0.length≤s.st.length:=by
    obtain⟨g,hg⟩:=hR
    exact hg.go1.evo.len
   have alt:∀ (bad:Nat×Nat) (ord:List Nat) (q:List (PI×Bool×List Nat)) (sq:PS),isOrd ops.size ord=true→anyOrd (masks ops.toList []) l (some bad) ord=some q→anys G T q [] s=some sq→
     ∃ Z,ZOK (masks ops.toList []) l ops.size (some bad) Z∧(∀ z∈Z,z.1<ops.size)∧Run G T (Zof l (restOf (Array.replicate ops.size false) Z)) s sq:=by
    intro bad ord q sq ho hq hsq
    obtain⟨p1,p2,p3⟩:=anyOrd_spec hq
    obtain⟨F,hF,hr,hck⟩:=run_of_anys q [] s sq hsq
    obtain⟨k1,k2,k3⟩:=zok_of (l:=l) (bad:=some bad) ho (F:=F) (by rw[hF,p1]) (fun p r i j hrp hi hj hm hb=>by
     obtain⟨b,e1,e2⟩:=p3 p i hi
     have hjd:ord.getD r 0=j:=by simp[List.getD_eq_getElem?_getD,hj]
     by_cases hap:(l.getD j default).apart (l.getD i default)=true
     ·exact⟨regs_of_apart hap,.inl hap⟩
     ·have hmem:r∈csOrd (masks ops.toList []) l (some bad) ord p i:=by
       simp only[csOrd,List.mem_filter,List.mem_range,hjd,hm,Bool.not_false,Bool.true_and,Bool.and_eq_true,Bool.not_eq_true',beq_eq_false_iff_ne]
       exact⟨hrp,by simpa using hap,hb⟩
      obtain⟨f,g,a1,a2,a2',a3⟩:=hck p _ e1 r hmem
      have a4:F[r]?=some (some f)∧((l.getD (ord.getD r 0) default).op.isCall=true→emptyB f=true):=by
       rcases a3 with a3 | ⟨_,a3,a5⟩
       ·simp at a3
       ·refine⟨by simpa using a3,fun hcl=>?_⟩
        have hrl:r<q.length:=by rw[p1]; exact(List.getElem?_eq_some_iff.1 hj).1
        obtain⟨b',e3,_⟩:=p3 r j hj
        exact a5 _ (by simpa using e3) (by rw[hjd]at hcl; exact hcl)
      have hrg:=e2 r hmem
      rw[hjd]at hrg
      refine⟨hrg,.inr ⟨f,g,?_,?_,okK_of a2 (by rw[← hjd]; exact a4.2) a2'⟩⟩
      ·simp[List.getD_eq_getElem?_getD,a4.1]
      ·simp[List.getD_eq_getElem?_getD,a1])
    refine⟨_,k1,k2,?_⟩
    rw[k3 _ hu,← p2]
    exact hr
   obtain⟨Z1,z1,z1',r1⟩:=alt (x,y) _ q1 s1 hrg hq1 hs1
   obtain⟨Z2,z2,z2',r2⟩:=alt (y,x) _ q2 s2 hio hq2 hs2
   refine wpIn_region_any hc.1 (any_sim2 hT hY hl hc.2 hxy (hin x (.inl rfl)) z1 z2 z1' z2' (sf1:=s1) (sf2:=s2) ?_ ?_ ops.size _ s a _ (by simp) h0 hcl (hu x (hin x (.inl rfl))) (hu y (hin y (.inr rfl))) r1 r2 hR.drew)
   ·intro a' w' hR'
    exact hQ a' w' (hR'.restrictAt keep s.st.length [s.st.length,s.st.length+1] (by omega) hk (by simp) (by simp; omega))
   ·intro a' w' hR'
    rw[← heq]at hQ
    exact hQ a' w' (hR'.restrictAt keep s.st.length [s.st.length+1,s.st.length] (by omega) hk (by simp) (by simp; omega))
  split at ht
  ·rename_i hap
   simp only[Option.some.injEq]at ht
   subst ht
   by_cases hxl:(l.any (isX il) && ordX (masks ops.toList []) l)=true
   ·simp only[hxl,if_true,PC.exec]at hx
    simp only[Bool.and_eq_true]at hxl
    split at hx
    ·rename_i s1 hs1
     simp only[Option.some.injEq,Prod.mk.injEq]at hx
     obtain⟨rfl,rfl⟩:=hx
     obtain⟨F,hF,hr⟩:=run_of_execs l s s1 hs1
     refine hend F hF hr rfl hc.1 hc.2 fun i j x y hx hy hij hm=>?_
     have h1:=allApart_spec hap hx hy hij hm
     exact⟨regs_of_apart h1,.inl h1⟩
    ·simp only[Option.map_eq_some_iff,Prod.mk.injEq]at hx
     obtain⟨⟨t,d,s2⟩,hx,rfl,rfl⟩:=hx
     exact wpIn_region_any hc.1 (any_simX hT hY hl hc.2 hap hxl.2 hx hQ _ a _ (by simp) hu hR.drew)
   obtain⟨rfl,hs⟩:=hrun l (by simp only[hxl,if_false,Bool.false_eq_true])
   obtain⟨F,hF,hr⟩:=run_of_execs l s s' hs
   refine hend F hF hr rfl hc.1 hc.2 fun i j x y hx hy hij hm=>?_
   have h1:=allApart_spec hap hx hy hij hm
   exact⟨regs_of_apart h1,.inl h1⟩
  ·split at ht
   ·rename_i x y hbad
    split at ht
    case h_2=>
     simp only[Option.some.injEq]at ht
     subst ht
     simp[PC.exec]at hx
    rename_i keep h' q1 q2 hq1 hq2
    split at ht
    case isFalse=>
     simp only[Option.some.injEq]at ht
     subst ht
     simp[PC.exec]at hx
    rename_i hio
    simp only[Bool.and_eq_true,bne_iff_ne,ne_eq]at hio
    obtain⟨hio,hxy⟩:=hio
    simp only[Option.some.injEq]at ht
    subst ht
    have hin:∀ k,k=x∨k=y→k<ops.size:=by
     intro k hk
     simp only[badPair]at hbad
     split at hbad
     ·rename_i p hp
      simp only[Option.some.injEq]at hbad
      subst hbad
      have hmem:(x,y)∈l.zipIdx.flatMap fun yi=>((l.take yi.2).zipIdx.filter fun xj=>xj.1.op.push && yi.1.op.push && !(((masks ops.toList []).getD yi.2 0).testBit xj.2)).map fun xj=>(xj.2,yi.2):=by rw[hp]; simp
      simp only[List.mem_flatMap,List.mem_map,List.mem_filter]at hmem
      obtain⟨⟨py,iy⟩,hy1,⟨px,ix⟩,⟨hx1,_⟩,hxy1⟩:=hmem
      simp only[Prod.mk.injEq]at hxy1
      obtain⟨rfl,rfl⟩:=hxy1
      have h2:=List.mk_mem_zipIdx_iff_getElem?.1 hy1
      have h3:=List.mk_mem_zipIdx_iff_getElem?.1 hx1
      have h4:=(List.getElem?_eq_some_iff.1 h2).1
      have h5:=(List.getElem?_eq_some_iff.1 h3).1
      simp only[List.length_take]at h5
      rcases hk with rfl | rfl <;> omega
     ·cases hbad
    exact any2ok x y keep q1 q2 hq1 hq2 hio hxy hin hx
   split at ht
   case h_2=>
    simp only[Option.some.injEq]at ht
    subst ht
    simp[PC.exec]at hx
   rename_i q hq
   have anyok:PC.exec G T fuel (.any q) s=some (e,s')→(Code.region id ops true).wpIn (Wr ro) 0 P Q a w:=by
    intro hz
    simp only[PC.exec]at hz
    split at hz
    case h_2=>cases hz
    rename_i s1 hs1
    simp only[Option.some.injEq,Prod.mk.injEq]at hz
    obtain⟨rfl,rfl⟩:=hz
    obtain⟨q1,q2,q3⟩:=anyOf_spec hq
    obtain⟨F,hF,hr,hck⟩:=run_of_anys q [] s s1 hs1
    rw[q2]at hr
    refine hend F (by rw[hF,q1]) hr rfl hc.1 hc.2 fun i j x y hx hy hij hm=>?_
    obtain⟨b,h1,h2⟩:=q3 i y hy
    have hxd:l.getD j default=x:=by simp[List.getD_eq_getElem?_getD,hx]
    by_cases hap:x.apart y=true
    ·exact⟨regs_of_apart hap,.inl hap⟩
    ·have hj:j∈csOf (masks ops.toList []) l i y:=by
      simp only[csOf,List.mem_filter,List.mem_range,hm,hxd,Bool.not_false,Bool.true_and]
      exact⟨hij,by simpa using hap⟩
     obtain⟨f,g,e1,e2,e2',e3⟩:=hck i _ h1 j hj
     have e4:F[j]?=some (some f)∧(x.op.isCall=true→emptyB f=true):=by
      rcases e3 with e3 | ⟨_,e3,e5⟩
      ·simp at e3
      ·obtain⟨b',e6,_⟩:=q3 j x hx
       exact⟨by simpa using e3,e5 _ (by simpa using e6)⟩
     refine⟨by rw[← hxd]; exact h2 j hj,.inr ⟨f,g,?_,?_,okK_of e2 e4.2 e2'⟩⟩
     ·simp[List.getD_eq_getElem?_getD,e4.1]
     ·simp[List.getD_eq_getElem?_getD,e1]
   have anyKok:PC.exec G T fuel (.anyK q) s=some (e,s')→(Code.region id ops true).wpIn (Wr ro) 0 P Q a w:=by
    intro hz
    simp only[PC.exec]at hz
    split at hz
    case h_2=>cases hz
    rename_i s1 hs1
    simp only[Option.some.injEq,Prod.mk.injEq]at hz
    obtain⟨rfl,rfl⟩:=hz
    obtain⟨q1,q2,q3⟩:=anyOf_spec hq
    obtain⟨F,hF,hr,hck⟩:=run_of_anysK q [] s s1 hs1
    rw[q2]at hr
    refine hend F (by rw[hF,q1]) hr rfl hc.1 hc.2 fun i j x y hx hy hij hm=>?_
    obtain⟨b,h1,h2⟩:=q3 i y hy
    have hxd:l.getD j default=x:=by simp[List.getD_eq_getElem?_getD,hx]
    by_cases hap:x.apart y=true
    ·exact⟨regs_of_apart hap,.inl hap⟩
    ·have hj:j∈csOf (masks ops.toList []) l i y:=by
      simp only[csOf,List.mem_filter,List.mem_range,hm,hxd,Bool.not_false,Bool.true_and]
      exact⟨hij,by simpa using hap⟩
     obtain⟨x',f,g,e1,e2,e3⟩:=hck i _ h1 j hj
     obtain⟨b',e6,_⟩:=q3 j x hx
     have e4:F[j]?=some (some f)∧x'=x:=by
      rcases e3 with e3 | ⟨_,e3,e5⟩
      ·simp at e3
      ·refine⟨by simpa using e3,?_⟩
       simp only[List.length_nil,Nat.sub_zero,e6,Option.map_some,Option.some.injEq]at e5
       exact e5.symm
     obtain⟨e4,rfl⟩:=e4
     refine⟨by rw[← hxd]; exact h2 j hj,.inr ⟨f,g,?_,?_,e2⟩⟩
     ·simp[List.getD_eq_getElem?_getD,e4]
     ·simp[List.getD_eq_getElem?_getD,e1]
   split at ht
   ·rename_i hfl
    split at ht
    case h_2=>
     simp only[Option.some.injEq]at ht
     subst ht
     simp[PC.exec]at hx
    rename_i keep h'
    simp only[Option.some.injEq]at ht
    subst ht
    have altok:∀ (ps:List (Nat×Nat)),PC.exec G T fuel (altL keep (masks ops.toList []) l ops.size ps) s=some (e,s')→(Code.region id ops true).wpIn (Wr ro) 0 P Q a w:=by
     intro ps
     induction ps with
     |nil=>intro hx; simp[altL,PC.exec]at hx
     |cons p ps ih=>
      obtain⟨x,y⟩:=p
      intro hx
      unfold altL at hx
      split at hx
      ·rename_i q1 q2 hq1 hq2
       split at hx
       ·rename_i hio
        simp only[Bool.and_eq_true,bne_iff_ne,ne_eq,decide_eq_true_eq]at hio
        obtain⟨⟨⟨hio,hxy⟩,hxs⟩,hys⟩:=hio
        rw[PC.exec]at hx
        split at hx
        ·rename_i r1 hr1
         rw[hx]at hr1
         exact any2ok x y keep q1 q2 hq1 hq2 hio hxy (fun k hk=>by rcases hk with rfl | rfl <;> assumption) hr1
        ·exact ih hx
       ·exact ih hx
      ·exact ih hx
    rw[PC.exec]at hx
    split at hx
    ·rename_i r1 hr1
     rw[hx]at hr1
     exact anyok hr1
    ·exact altok _ hx
   split at ht
   ·rename_i hxi
    simp only[Bool.and_eq_true]at hxi
    simp only[Option.some.injEq]at ht
    subst ht
    obtain⟨hi0,o1,o2⟩:=ordXi_spec hxi.2
    generalize firstX il l=i0 at*
    unfold anyX at hx
    rw[PC.exec]at hx
    split at hx
    ·rename_i r1 hr1
     rw[hx]at hr1
     exact anyok hr1
    ·simp only[PC.exec]at hx
     cases hs1:anys G T (q.take i0) [] s with
     |none=>simp[hs1]at hx
     |some s1=>
      simp only[hs1,execs,execsX]at hx
      cases hs2:(l.getD i0 default).exec G T s1 with
      |some s2=>simp only[hs2,reduceCtorEq]at hx
      |none=>
       simp only[hs2]at hx
       cases hs3:(l.getD i0 default).execX G T s1 with
       |none=>simp only[hs3,Option.map_none,reduceCtorEq]at hx
       |some r3=>
        obtain⟨t,d,s3⟩:=r3
        simp only[hs3,Option.map_some,Option.some.injEq,Prod.mk.injEq]at hx
        obtain⟨rfl,rfl⟩:=hx
        obtain⟨q1,q2,q3⟩:=anyOf_spec hq
        obtain⟨F,hF,hr,hck⟩:=run_of_anys _ [] s s1 hs1
        have hFl:F.length=i0:=by rw[hF,List.length_take]; omega
        have hqt:(q.take i0).map (·.1)=l.take i0:=by rw[List.map_take,q2]
        rw[hqt]at hr
        refine wpIn_region_any hc.1 (any_simXi hT hY hl hc.2 hi0 o1 o2 hFl (fun i j hij hi hm=>?_) hr hs3 hQ _ a _ (by simp) hu hR.drew)
        have hyi:l[i]?=some (l.getD i default):=by simp[List.getD_eq_getElem?_getD,show i<l.length by omega]
        obtain⟨b,h1,h2⟩:=q3 i _ hyi
        by_cases hap:(l.getD j default).apart (l.getD i default)=true
        ·exact⟨regs_of_apart hap,.inl hap⟩
        ·have hj:j∈csOf (masks ops.toList []) l i (l.getD i default):=by
          simp only[csOf,List.mem_filter,List.mem_range,hm,Bool.not_false,Bool.true_and]
          exact⟨hij,by simpa using hap⟩
         have h1':(q.take i0)[i]?=some (l.getD i default,b,csOf (masks ops.toList []) l i (l.getD i default)):=by
          rw[List.getElem?_take,if_pos hi]; exact h1
         obtain⟨f,g,e1,e2,e2',e3⟩:=hck i _ h1' j hj
         have e4:F[j]?=some (some f)∧((l.getD j default).op.isCall=true→emptyB f=true):=by
          rcases e3 with e3 | ⟨_,e3,e5⟩
          ·simp at e3
          ·refine⟨by simpa using e3,fun hcl=>?_⟩
           have hxj:l[j]?=some (l.getD j default):=by simp[List.getD_eq_getElem?_getD,show j<l.length by omega]
           obtain⟨b',e6,_⟩:=q3 j _ hxj
           exact e5 _ (by simp only[List.length_nil,Nat.sub_zero]; rw[List.getElem?_take,if_pos (by omega)]; exact e6) hcl
         refine⟨h2 j hj,.inr ⟨f,g,?_,?_,okK_of e2 e4.2 e2'⟩⟩
         ·simp[List.getD_eq_getElem?_getD,e4.1]
         ·simp[List.getD_eq_getElem?_getD,e1]
   ·simp only[Option.some.injEq]at ht
    subst ht
    split at hx
    ·exact anyKok hx
    ·exact anyok hx
theorem recAt_inv{st:St}{k:Nat}{n:Int}(h:recAt st k=some n):∃ o,st[k]?=some o∧o.row=false∧o.sz=1000003∧o.els=[.int .i64 n]:=by
 unfold recAt at h
 split at h
 case h_2=>cases h
 rename_i o ho
 split at h
 case isFalse=>cases h
 rename_i hc
 simp only[Bool.and_eq_true,Bool.not_eq_true',beq_iff_eq]at hc
 split at h
 case h_2=>cases h
 rename_i n' hels
 obtain rfl:=Option.some.inj h
 exact⟨o,ho,hc.1,hc.2,hels⟩
theorem SR.recAt{base:Nat}{w:World}{g:Ghost}{st:St}(h:SR base w g st){k:Nat}{o:Obj}(ho:st[k]?=some o)(h1:o.row=false)(h2:o.sz=1000003):RecAt base w (g.β k) o:=
 (h.mp k o ho (by simp[Obj.isMap,h1,h2])).rec' h2
theorem Go1.recO{base:Nat}{w w':World}{g g':Ghost}{st st':St}(h:Go1 base w g st w' g' st'){k:Nat}{o:Obj}(ho:st[k]?=some o)(h1:o.row=false)(h2:o.sz=1000003) :
  g'.β k=g.β k∧∃ o',st'[k]?=some o'∧o'.row=false∧o'.sz=1000003:=by
 obtain⟨o',e1,e2,e3,_,_,e6⟩:=h.evo k o ho
 exact⟨e6 h1,o',e1,e2.trans h1,e3.trans h2⟩
theorem beside_put{w:World}{l:Nat}{x:Go.Obj}:Beside w (w.putObj l x):=⟨rfl,rfl,rfl,by rw[World.putObj_size]; exact Nat.le_refl _⟩
theorem Go1.putRec{base:Nat}{w:World}{g:Ghost}{st:St}(h:SR base w g st){l k:Nat}{o:Obj}{r:Loop}{n:Int}{s:_}{p:Option Code}(hk:st[k]?=some o)(hrow:o.row=false)(hsz:o.sz=1000003)
  (hl:g.β k=l) (hr:w.heap[l]?=some (.loop r)) (h0:n=0→s=.ready∧p=none) (h1:n=1→s=.done∧p=some .ret) :
  Go1 base w g st (w.putObj l (.loop {r with state:=s,pending:=p})) g (st.set k (PI.recO n)):=by
 subst hl
 exact h.updRec (s:=s) (p:=p) hk hrow hsz beside_put (fun b hb=>World.putObj_heap_other hb) hr (World.putObj_heap_same (Array.getElem?_eq_some_iff.1 hr).1) h0 h1
theorem stepR_scope{P:Program}{b:Go.Frame}{a:Act}{k:List Item}{cs:List Go.Frame}{w:World}{c:Code}:step P (lone (b.atR a (.code (.scope c)::k)) cs w)=.next (lone (b.atR a (.code c::.inScope c::k)) cs w):=
 step_lone_go (by simp[stepG,stepG.exec,Frame.atR])
theorem stepR_inScope{P:Program}{b:Go.Frame}{a:Act}{k:List Item}{cs:List Go.Frame}{w:World}{c:Code}:step P (lone (b.atR a (.inScope c::k)) cs w)=.next (lone (b.atR a k) cs w):=
 step_lone_go (by simp[stepG,stepG.exec,Frame.atR])
def noGo(Q:Exit→Act→World→Prop):Exit→Act→World→Prop
 |.goto _,_,_=>False
 |e,a,w=>Q e a w
theorem wpIn_scope{F:Fence}{n:Nat}{P:Program}{Q:Exit→Act→World→Prop}{a:Act}{w:World}{c:Code}(h:c.wpIn F n P (noGo Q) a w):(Code.scope c).wpIn F n P Q a w:=by
 intro b k cs hro hb hr
 have h0:(lone (b.atR a (.code (.scope c)::k)) cs w).fenced P F:=fenced_calm hb hr rfl
 obtain⟨e,a₁,w₁,hq,harr⟩:=h b (.inScope c::k) cs hro hb hr
 cases e with
 |normal=>exact⟨.normal,a₁,w₁,hq,.head h0 stepR_scope (StepsIn.trans harr (.one (fenced_calm hb hr rfl) stepR_inScope))⟩
 |exit id=>
  have hx:exitTo id (.inScope c::k)=exitTo id k:=by simp[exitTo]
  exact⟨.exit id,a₁,w₁,hq,fun k' hk=>.head h0 stepR_scope (harr.1 k' (by rw[hx]; exact hk)),
   fun hr' hk=>let⟨k₁,h1,h2⟩:=harr.2 hr' (by rw[hx]; exact hk); ⟨k₁,h1,.head h0 stepR_scope h2⟩⟩
 |goto l=>exact hq.elim
 |ret=>exact⟨_,a₁,w₁,hq,.of_steps (.one h0 stepR_scope) harr⟩
 |panic ch=>exact⟨_,a₁,w₁,hq,.of_steps (.one h0 stepR_scope) harr⟩
 |outgrown=>exact⟨_,a₁,w₁,hq,.of_steps (.one h0 stepR_scope) harr⟩
theorem code_sim(hT:TblOK P G T):∀ (c:Code) (ro:Option Nat) (_:ro=none∨noRange c=true) (w0:World) (g0:Ghost) (st0:St) (dl:List Deferred) (_:YOK P G T.y base w0 g0 st0) (_:base≤w0.heap.size) (h:List (List Nat)) (r:PC×List (List Nat)),trC P il n h c=some r→∀ (fuel:Nat) (s s':PS) (e:Ex),r.1.exec G T fuel s=some (e,s')→
  ∀ (a:Act) (w:World) (Q:Exit→Act→World→Prop),R G base n w0 g0 st0 dl s a w→(∀ a' w',R G base n w0 g0 st0 dl s' a' w'→Q (exOf e) a' w')→c.wpIn (Wr ro) 0 P Q a w:=by
 intro c
 induction c with
 |skip=>
  intro ro hro w0 g0 st0 dl hY hb0 h r ht fuel s s' e hx a w Q hR hQ
  simp only[trC,Option.some.injEq]at ht; subst ht
  simp only[PC.exec,Option.some.injEq,Prod.mk.injEq]at hx
  obtain⟨rfl,rfl⟩:=hx
  exact wpIn_skip (hQ a w hR)
 |exit id=>
  intro ro hro w0 g0 st0 dl hY hb0 h r ht fuel s s' e hx a w Q hR hQ
  simp only[trC,Option.some.injEq]at ht; subst ht
  simp only[PC.exec,Option.some.injEq,Prod.mk.injEq]at hx
  obtain⟨rfl,rfl⟩:=hx
  exact wpIn_exit (hQ a w hR)
 |ret=>
  intro ro hro w0 g0 st0 dl hY hb0 h r ht fuel s s' e hx a w Q hR hQ
  simp only[trC,Option.some.injEq]at ht; subst ht
  simp only[PC.exec,Option.some.injEq,Prod.mk.injEq]at hx
  obtain⟨rfl,rfl⟩:=hx
  exact wpIn_ret (hQ a w hR)
 |region id ops draw=>
  intro ro hro w0 g0 st0 dl hY hb0 h r ht fuel s s' e hx a w Q hR hQ
  exact list_code hT hY ht hx hR hQ
 |seq x y ihx ihy=>
  intro ro hro w0 g0 st0 dl hY hb0 h r ht fuel s s' e hx a w Q hR hQ
  unfold trC at ht
  split at ht
  case h_2=>cases ht
  rename_i px h1 hx1
  split at ht
  case h_2=>cases ht
  rename_i py h2 hy1
  simp only[Option.some.injEq]at ht; subst ht
  simp only[PC.exec]at hx
  refine wpIn_seq ?_
  split at hx
  ·rename_i s1 hs1
   exact ihx ro (hro.imp (fun h=>h) fun h=>by simp only[noRange,Bool.and_eq_true]at h; exact h.1) w0 g0 st0 dl hY hb0 _ _ hx1 fuel s s1 .next hs1 a w _ hR fun a' w' hR'=>ihy ro (hro.imp (fun h=>h) fun h=>by simp only[noRange,Bool.and_eq_true]at h; exact h.2) w0 g0 st0 dl hY hb0 _ _ hy1 fuel s1 s' e hx a' w' Q hR' hQ
  ·rename_i e1 s1 hne hs1
   simp only[Option.some.injEq,Prod.mk.injEq]at hx
   obtain⟨rfl,rfl⟩:=hx
   refine ihx ro (hro.imp (fun h=>h) fun h=>by simp only[noRange,Bool.and_eq_true]at h; exact h.1) w0 g0 st0 dl hY hb0 _ _ hx1 fuel s _ _ hs1 a w _ hR fun a' w' hR'=>?_
   cases e1 with
   |next=>exact(hne rfl).elim
   |exit id=>exact hQ a' w' hR'
   |ret=>exact hQ a' w' hR'
   |panic t d=>exact hQ a' w' hR'
  ·cases hx
 |cond c x y ihx ihy=>
  intro ro hro w0 g0 st0 dl hY hb0 h r ht fuel s s' e hx a w Q hR hQ
  unfold trC at ht
  split at ht
  case h_2=>cases ht
  rename_i pa hpa
  split at ht
  case h_2=>cases ht
  rename_i px h1 hx1
  split at ht
  case h_2=>cases ht
  rename_i py h2 hy1
  simp only[Option.some.injEq]at ht; subst ht
  simp only[PC.exec]at hx
  obtain⟨g,hg⟩:=id hR
  have hc:=trA_rep (G:=G) hg.gl hg.fr hpa
  split at hx
  ·rename_i hb
   rw[hb]at hc
   exact wpIn_cond_true (bool_inv hc) (ihx ro (hro.imp (fun h=>h) fun h=>by simp only[noRange,Bool.and_eq_true]at h; exact h.1) w0 g0 st0 dl hY hb0 _ _ hx1 fuel s s' e hx a w Q hR hQ)
  ·rename_i hb
   rw[hb]at hc
   exact wpIn_cond_false (bool_inv hc) (ihy ro (hro.imp (fun h=>h) fun h=>by simp only[noRange,Bool.and_eq_true]at h; exact h.2) w0 g0 st0 dl hY hb0 _ _ hy1 fuel s s' e hx a w Q hR hQ)
  ·cases hx
 |block id c ih=>
  intro ro hro w0 g0 st0 dl hY hb0 h r ht fuel s s' e hx a w Q hR hQ
  unfold trC at ht
  split at ht
  case h_2=>cases ht
  rename_i px h1 hx1
  simp only[Option.some.injEq]at ht; subst ht
  simp only[PC.exec]at hx
  refine wpIn_block ?_
  split at hx
  ·rename_i id' s1 hs1
   refine ih ro (hro.imp (fun h=>h) fun h=>by simpa only[noRange]using h) w0 g0 st0 dl hY hb0 _ _ hx1 fuel s s1 _ hs1 a w _ hR fun a' w' hR'=>?_
   split at hx
   ·rename_i he
    simp only[Option.some.injEq,Prod.mk.injEq]at hx
    obtain⟨rfl,rfl⟩:=hx
    simpa[exOf,Exit.inBlock,he]using hQ a' w' hR'
   ·rename_i he
    simp only[Option.some.injEq,Prod.mk.injEq]at hx
    obtain⟨rfl,rfl⟩:=hx
    simpa[exOf,Exit.inBlock,he]using hQ a' w' hR'
  ·rename_i e1 s1 hne hs1
   simp only[Option.some.injEq,Prod.mk.injEq]at hx
   obtain⟨rfl,rfl⟩:=hx
   refine ih ro (hro.imp (fun h=>h) fun h=>by simpa only[noRange]using h) w0 g0 st0 dl hY hb0 _ _ hx1 fuel s _ _ hs1 a w _ hR fun a' w' hR'=>?_
   cases e1 with
   |next=>exact hQ a' w' hR'
   |exit id=>exact(hne _ rfl).elim
   |ret=>exact hQ a' w' hR'
   |panic t d=>exact hQ a' w' hR'
  ·cases hx
 |loop c ih=>
  intro ro hro w0 g0 st0 dl hY hb0 h r ht fuel s s' e hx a w Q hR hQ
  unfold trC at ht
  split at ht
  case h_2=>cases ht
  rename_i keep h'
  split at ht
  case h_2=>cases ht
  rename_i px h1 hx1
  simp only[Option.some.injEq]at ht; subst ht
  have hk:st0.length≤s.st.length:=by
   obtain⟨g,hg⟩:=hR
   exact hg.go1.evo.len
  obtain⟨cut,hcut,hx⟩:∃ cut:PS→PS,(∀ s a w,R G base n w0 g0 st0 dl s a w→R G base n w0 g0 st0 dl (cut s) a w)∧loopx (px.exec G T fuel) cut fuel s=some (e,s'):=by
   split at hx
   ·exact⟨keepAll keep.tail,fun _ _ _ h=>h.keepAll _,by simpa only[PC.exec]using hx⟩
   ·exact⟨PI.restrict keep s.st.length,fun _ _ _ h=>h.restrict _ _ hk,by simpa only[PC.exec]using hx⟩
  refine wpIn_loop_ghost (fun m a w=>∃ s1,loopx (px.exec G T fuel) (cut) m s1=some (e,s')∧R G base n w0 g0 st0 dl s1 a w) fuel ⟨s,hx,hR⟩ ?_
  rintro m a w ⟨s1,hl,hR1⟩
  cases m with
  |zero=>simp[loopx]at hl
  |succ m=>
   simp only[loopx]at hl
   split at hl
   ·rename_i s2 hs2
    exact ih ro (hro.imp (fun h=>h) fun h=>by simpa only[noRange]using h) w0 g0 st0 dl hY hb0 _ _ hx1 fuel _ s2 .next hs2 a w _ (hcut _ _ _ hR1) fun a' w' hR'=>⟨m,Nat.lt_succ_self m,s2,hl,hR'⟩
   ·rename_i e1 s2 hne hs2
    simp only[Option.some.injEq,Prod.mk.injEq]at hl
    obtain⟨rfl,rfl⟩:=hl
    refine ih ro (hro.imp (fun h=>h) fun h=>by simpa only[noRange]using h) w0 g0 st0 dl hY hb0 _ _ hx1 fuel _ _ _ hs2 a w _ (hcut _ _ _ hR1) fun a' w' hR'=>?_
    cases e1 with
    |next=>exact(hne rfl).elim
    |exit id=>exact hQ a' w' hR'
    |ret=>exact hQ a' w' hR'
    |panic t d=>exact hQ a' w' hR'
   ·cases hl
 |scope c ih=>
  intro ro hro w0 g0 st0 dl hY hb0 h r ht fuel s s' e hx a w Q hR hQ
  simp only[trC]at ht
  refine wpIn_scope (ih ro (hro.imp (fun h=>h) fun h=>by simpa only[noRange]using h) w0 g0 st0 dl hY hb0 h r ht fuel s s' e hx a w _ hR fun a' w' hR'=>?_)
  cases e with
  |next=>exact hQ a' w' hR'
  |exit id=>exact hQ a' w' hR'
  |ret=>exact hQ a' w' hR'
  |panic t d=>exact hQ a' w' hR'
 |label l=>
  intro ro hro w0 g0 st0 dl hY hb0 h r ht fuel s s' e hx a w Q hR hQ
  simp only[trC,Option.some.injEq]at ht; subst ht
  simp only[PC.exec,Option.some.injEq,Prod.mk.injEq]at hx
  obtain⟨rfl,rfl⟩:=hx
  exact wpIn_label (hQ a w hR)
 |rangeFunc gf ps asg body iha ihb=>
  intro ro hro w0 g0 st0 dl hY hb0 h r ht fuel s s' e hx a w Q hR hQ
  unfold trC at ht
  split at ht
  case h_2=>cases ht
  rename_i pa hpa
  split at ht
  case h_2=>cases ht
  rename_i pca h1 hx1
  split at ht
  case h_2=>cases ht
  rename_i pcb h2 hy1
  split at ht
  case isFalse=>
   simp only[Option.some.injEq]at ht; subst ht
   simp[PC.exec]at hx
  rename_i hc
  simp only[Bool.and_eq_true]at hc
  obtain⟨⟨hna,hnb⟩,hps⟩:=hc
  simp only[Option.some.injEq]at ht; subst ht
  obtain rfl:ro=none:=hro.resolve_right (by simp[noRange])
  simp only[PC.exec,Option.bind_eq_some_iff,Option.map_eq_some_iff,Prod.mk.injEq]at hx
  obtain⟨st'',hrr,e0,hex,rfl,rfl⟩:=hx
  unfold rangeRun at hrr
  split at hrr
  case h_2=>cases hrr
  rename_i f caps hclo
  split at hrr
  case isFalse=>cases hrr
  rename_i hlt
  split at hrr
  case h_2=>cases hrr
  rename_i sp hsp
  simp only[Option.map_eq_some_iff,Prod.exists]at hrr
  obtain⟨dr,st3,hrun,rfl⟩:=hrr
  obtain⟨g,hg⟩:=hR
  have hrep:=trA_rep (G:=G) hg.gl hg.fr hpa
  rw[hclo]at hrep
  generalize hxv:a.eval gf=xv at hrep
  cases hrep with
  |clo _ _ us hlen hus=>
   rw[fnOf_lt hlt,firstOf_lt hlt,capsOf_lt hlt]at hxv
   obtain⟨⟨fn,hfn,hbody,hname⟩,hcon⟩:=hT.r f sp hsp
   refine wpIn_rangeFunc fun fnid _=>?_
   -- the two new blocks
   have hlw:w.heap.size+1=(w.alloc (.deferred (some []))).heap.size:=by rw[World.size_alloc]
   generalize hrec:({state:=.ready,pending:=none,fn:=fnid,tmps:=a.tmps,params:=ps,assign:=asg,body:=body,defers:=w.heap.size}:Loop)=rec
   generalize hw1:((w.alloc (.deferred (some []))).alloc (.loop rec))=w1
   have hs1:w1.heap.size=w.heap.size+2:=by rw[← hw1,World.size_alloc,World.size_alloc]
   have hold:∀ b,b<w.heap.size→w1.heap[b]?=w.heap[b]?:=by
    intro b hb
    rw[← hw1]
    show((w.heap.push (.deferred (some []))).push (.loop rec))[b]?=_
    rw[Array.getElem?_push,if_neg (by simp; omega),Array.getElem?_push,if_neg (by omega)]
   have hD:w1.heap[w.heap.size]?=some (.deferred (some [])):=by
    rw[← hw1]
    show((w.heap.push (.deferred (some []))).push (.loop rec))[w.heap.size]?=_
    rw[Array.getElem?_push,if_neg (by simp),Array.getElem?_push,if_pos rfl]
   have hL:w1.heap[w.heap.size+1]?=some (.loop rec):=by
    rw[← hw1]
    show((w.heap.push (.deferred (some []))).push (.loop rec))[w.heap.size+1]?=_
    rw[Array.getElem?_push,if_pos (by simp)]
   have hready:rec.state=.ready∧rec.pending=none:=by rw[← hrec]; exact⟨rfl,rfl⟩
   have hgo1:Go1 base w g s.st w1 {g with β:=upd g.β s.st.length (w.heap.size+1)} (s.st++[recO 0]):=by
    have hbes:Beside w w1:=by rw[← hw1]; exact⟨rfl,rfl,rfl,by rw[World.size_alloc,World.size_alloc]; omega⟩
    exact hg.sr.pushRec (by omega) hbes hold hL hready
   generalize hg1:({g with β:=upd g.β s.st.length (w.heap.size+1)}:Ghost)=g1 at hgo1
   have hβ1:g1.β s.st.length=w.heap.size+1:=by rw[← hg1]; exact upd_same _ _ _
   have hk1:(s.st++[recO 0])[s.st.length]?=some (recO 0):=by simp
   have henter:(Instr.enterLoop fnid a.tmps ps asg body (Wr none).round).run P w=.ok (w.heap.size+1,[{target:=.collected w.heap.size,args:=#[]}]) w1:=by
    rw[← hw1,← hrec]
    exact run_enterLoop_outer fnid a.tmps ps asg body
   refine⟨w.heap.size+1,[{target:=.collected w.heap.size,args:=#[]}],w1,{target:=.fn (.func f) us.toArray,args:=#[.func (.yield (w.heap.size+1)) #[] #[]]},w1,f,(Value.func (.yield (w.heap.size+1)) #[] #[]::us).toArray,w1,henter,?_,fun _ _=>trivial,?_,(fun e=>by cases e),?_⟩
   ·have hk:∀ v,a.eval (.const v)=v:=fun _=>rfl
    simp[resolve,hxv,Deferred.ofValue,hk]
   ·have hbn:¬ fn.body=none:=by
     intro e; rw[e]at hbody; cases hbody
    have hn':¬ fn.name= "runtime.NumGoroutine":=by simpa using hname
    simp[invoke,callFunc,hfn,hn',hbn]
   ·refine CallsIn.mono (callsIn_wide.2 (hcon base w1 g1 (s.st++[recO 0]) st3 caps us dr (w.heap.size+1) _ ?_ hrun hgo1.sr (hg.gl.mono hgo1.im) hlen (fun i d v hd hv=>hgo1.rep (hus i d v hd hv)))) ?_
    ·
     intro l' w2 g2 st2 st2' ds vs d2 hgo2 hG2 hy hl2 hr2
     replace hy:(if l'=w.heap.size+1 then roundY (PC.exec G T fuel pca) (PC.exec G T fuel pcb) s.fr ps.toList s.st.length ds st2 else none)=some (d2,st2'):=hy
     split at hy
     case isFalse=>cases hy
     rename_i hll
     subst hll
     unfold roundY at hy
     split at hy
     case isFalse=>cases hy
     rename_i hdl
     split at hy
     case h_2=>cases hy
     rename_i sa hsa
     split at hy
     case isFalse=>cases hy
     rename_i hrec0
     obtain⟨s2,p2,hL2⟩:=(hgo2.kp _ _ hL rfl).loop
     have hpsz:ps.size=vs.length:=by rw[← hl2,hdl]; simp
     refine⟨fnid,_,asg,body,by rw[run_yield hL2 (by rw[← hrec]; simp[hpsz]),← hrec],?_⟩
     have hYw2:YOK P G T.y base w2 g2 st2:=hY.mono (hg.go1.trans (hgo1.trans hgo2))
     have hbl:base≤w.heap.size:=hg.sr.size
     have hfold:(ps.zip vs.toArray).foldl (fun tmps x=>tmps.setIfInBounds x.1 x.2) a.tmps=(ps.toList.zip vs).foldl (fun tmps p=>tmps.setIfInBounds p.1 p.2) a.tmps:=by
      rw[← Array.foldl_toList]; simp
     refine roundIn_of_wpIn trivial ?_
     show asg.wpIn (Wr (some (w.heap.size+1))) 0 P _ _ w2
     refine iha (some (w.heap.size+1)) (.inr hna) w2 g2 st2 [] hYw2 (Nat.le_trans hbl (Nat.le_trans (by omega) (hgo1.trans hgo2).below.size)) _ _ hx1 fuel _ sa .next hsa _ w2 _ ⟨g2,Go1.refl hgo2.sr,?_,hG2,⟨[],rfl,trivial⟩,?_⟩ ?_
     ·have hF2:FR w2 g2 st2 s.fr a:=hg.fr.mono (hgo1.trans hgo2).im (hgo1.trans hgo2).evo
      have:=setP_fr (x:=[]) ps.toList ds vs s.fr a.tmps (by simpa using hdl) hl2 (fun p hp=>by
       have:=List.all_eq_true.1 hps p hp
       have:=of_decide_eq_true this
       exact Nat.lt_of_lt_of_le this hg.sz) hF2 hr2
      rw[← hfold]at this
      exact this
     ·have:=foldl_set_size (ps.toList.zip vs) a.tmps
      rw[← hfold]at this
      exact Nat.le_trans hg.sz (Nat.le_of_eq this.symm)
     ·rintro a3 w3 ⟨g3,h3⟩
      have hgo13:=hgo2.trans h3.go1
      obtain⟨o3,ho3,hro3,hso3,hels3⟩:=recAt_inv hrec0
      have hβ3:g3.β s.st.length=w.heap.size+1:=(hgo13.recO hk1 rfl rfl).1.trans hβ1
      obtain⟨r3,n3,hb3,_,hn3,hz3,_⟩:=h3.go1.sr.recAt ho3 hro3 hso3
      rw[hβ3]at hb3
      rw[hels3]at hn3
      have hn0:n3=0:=by simpa using hn3.symm
      have hready3:r3.state=.ready:=(hz3 hn0).1
      refine⟨_,run_beginRound hb3 hready3,?_⟩
      have hgo4:=Go1.putRec (n:=2) (s:=.busy) (p:=r3.pending) h3.go1.sr ho3 hro3 hso3 hβ3 hb3 (fun e=>by cases e) (fun e=>by cases e)
      have hlt3:w.heap.size+1<w3.heap.size:=(Array.getElem?_eq_some_iff.1 hb3).1
      show body.wpIn (Wr (some (w.heap.size+1))) 0 P _ _ (w3.putObj (w.heap.size+1) (.loop {r3 with state:=.busy,pending:=r3.pending}))
      generalize hw4:w3.putObj (w.heap.size+1) (.loop {r3 with state:=.busy,pending:=r3.pending})=w4 at hgo4
      have hgo04:=hg.go1.trans (hgo1.trans (hgo13.trans hgo4))
      have hk4:(sa.st.set s.st.length (recO 2))[s.st.length]?=some (recO 2):=by
       have:=(List.getElem?_eq_some_iff.1 ho3).1
       simp[this]
      -- the body's end,and what is said of the record
      have fin:∀ (sb:PS) (a5:Act) (w5:World) (nn:Int) (jump:Option Code) (b:Bool),R G base n w4 g3 (sa.st.set s.st.length (recO 2)) a3.defers sb a5 w5→b=jump.isNone→(nn=0→jump=none)→(nn=1→jump=some .ret)→
        ∃ v w',(Instr.endRound (w.heap.size+1) jump).run P w5=.ok v w'∧∃ v' g',(Ending.returned v:Ending)=.returned v'∧Go1 base w2 g2 st2 w' g' (sb.st.set s.st.length (recO nn))∧RepV w' g' (sb.st.set s.st.length (recO nn)) (.bool b) v':=by
       rintro sb a5 w5 nn jump b ⟨g5,h5⟩ hb hj0 hj1
       obtain⟨hβ5,o5,ho5,hro5,hso5⟩:=h5.go1.recO hk4 rfl rfl
       obtain⟨r5,n5,hb5,_⟩:=h5.go1.sr.recAt ho5 hro5 hso5
       rw[hβ5,hβ3]at hb5
       have hgo6:=Go1.putRec (n:=nn) (s:=if jump.isNone then .ready else .done) (p:=jump) h5.go1.sr ho5 hro5 hso5 (hβ5.trans hβ3) hb5
        (fun e=>by rw[hj0 e]; exact⟨rfl,rfl⟩) (fun e=>by rw[hj1 e]; exact⟨rfl,rfl⟩)
       refine⟨_,_,run_endRound jump hb5,.bool jump.isNone,g5,rfl,h3.go1.trans (hgo4.trans (h5.go1.trans hgo6)),?_⟩
       rw[hb]; exact .bool _
      split at hy
      ·rename_i sb hsb
       simp only[Option.some.injEq,Prod.mk.injEq]at hy
       obtain⟨rfl,rfl⟩:=hy
       refine ihb (some (w.heap.size+1)) (.inr hnb) w4 g3 _ a3.defers (hY.mono hgo04) (Nat.le_trans hb0 hgo04.below.size) _ _ hy1 fuel _ sb .next hsb _ w4 _ ⟨g3,Go1.refl hgo4.sr,h3.fr.mono hgo4.im hgo4.evo,h3.gl.mono hgo4.im,⟨[],rfl,trivial⟩,h3.sz⟩ ?_
       exact fun a5 w5 h5=>fin sb a5 w5 0 none true h5 rfl (fun _=>rfl) (fun e=>by cases e)
      ·rename_i sb hsb
       simp only[Option.some.injEq,Prod.mk.injEq]at hy
       obtain⟨rfl,rfl⟩:=hy
       refine ihb (some (w.heap.size+1)) (.inr hnb) w4 g3 _ a3.defers (hY.mono hgo04) (Nat.le_trans hb0 hgo04.below.size) _ _ hy1 fuel _ sb .ret hsb _ w4 _ ⟨g3,Go1.refl hgo4.sr,h3.fr.mono hgo4.im hgo4.evo,h3.gl.mono hgo4.im,⟨[],rfl,trivial⟩,h3.sz⟩ ?_
       exact fun a5 w5 h5=>fin sb a5 w5 1 (some .ret) false h5 rfl (fun e=>by cases e) (fun _=>rfl)
      ·cases hy
    ·rintro e w3 ⟨v,g3,rfl,hgo3,_⟩
     obtain⟨hβ3,_⟩:=hgo3.recO hk1 rfl rfl
     rw[hβ1]at hβ3
     have hD3:w3.heap[w.heap.size]?=some (.deferred (some [])):=(hgo3.kp _ _ hD rfl).def'
     have hbl:base≤w.heap.size:=hg.sr.size
     unfold recEx at hex
     split at hex
     case h_2=>cases hex
     rename_i n3 hrec3
     obtain⟨o3,ho3,hro3,hso3,hels3⟩:=recAt_inv hrec3
     obtain⟨r3,n3',hb3,_,hn3,hz3,ho1⟩:=hgo3.sr.recAt ho3 hro3 hso3
     rw[hβ3]at hb3
     rw[hels3]at hn3
     have hn0:n3'=n3:=by simpa using hn3.symm
     subst hn0
     have hnb3:r3.state≠.busy:=by
      split at hex
      ·rename_i e; rw[(hz3 e).1]; simp
      ·split at hex
       ·rename_i e; rw[(ho1 e).1]; simp
       ·cases hex
     have hgo4':=Go1.putRec (n:=2) (s:=.exhausted) (p:=r3.pending) hgo3.sr ho3 hro3 hso3 hβ3 hb3 (fun e=>by cases e) (fun e=>by cases e)
     have hgo4:=hgo1.trans (hgo3.trans hgo4')
     have hRn:R G base n w0 g0 st0 dl ⟨s.fr,st3.set s.st.length (recO 2)⟩ {a with defers:=[{target:=.collected w.heap.size,args:=#[]}]++a.defers} (w3.putObj (w.heap.size+1) (.loop {r3 with state:=.exhausted,pending:=r3.pending})):=by
      refine⟨g3,hg.go1.trans hgo4,hg.fr.mono hgo4.im hgo4.evo,hg.gl.mono hgo4.im,?_,hg.sz⟩
      obtain⟨dd,hd1,hd2⟩:=hg.df
      refine⟨{target:=.collected w.heap.size,args:=#[]}::dd,by simp[hd1],⟨w.heap.size,rfl,?_,?_,?_⟩,hd2.mono hgo4.kp⟩
      ·rw[World.putObj_heap_other (by omega)]; exact hD3
      ·have:=hg.go1.below.size
       exact Array.getElem?_eq_none (by omega)
      ·intro d' hd' e
       obtain⟨D',h1,h2⟩:=hd2.mem hd'
       rw[e]at h1
       have:w.heap.size=D':=by simpa using h1
       rw[← this,Array.getElem?_eq_none (Nat.le_refl _)]at h2
       cases h2
     refine⟨r3.pending,_,run_endLoop hb3 hnb3,?_⟩
     split at hex
     ·rename_i e
      obtain rfl:=Option.some.inj hex
      have hp:=(hz3 e).2
      rw[hp]
      have:=hQ _ _ hRn
      rw[hp]at this
      simpa[exOf]using this
     ·split at hex
      ·rename_i e
       obtain rfl:=Option.some.inj hex
       have hp:=(ho1 e).2
       rw[hp]
       have:=hQ _ _ hRn
       rw[hp]at this
       exact wpIn_ret (by simpa[exOf]using this)
      ·cases hex
 |_=>
  intro ro hro w0 g0 st0 dl hY hb0 h r ht fuel s s' e hx
  simp only[trC,Option.some.injEq]at ht; subst ht
  simp[PC.exec]at hx
theorem loadAt_var{t:TypeId}{v u:Value}{w:World}(h:(Instr.loadAt t v).run P w=.ok u w):(do loadVar t (← asAddr v):Sem Value).run P w=.ok u w:=by
 cases v with
 |pointer a=>
  cases a with
  |none=>simp[Instr.loadAt,Instr.sureAddr]at h
  |some a=>simpa[Instr.loadAt,Instr.sureAddr,asAddr]using h
 |_=>simp[Instr.loadAt,Instr.sureAddr]at h
def resOne(tmps:Array Value):ResultVar→Sem Value
 |.tmp t=>pure (tmps.getD t undef)
 |.cell a t=>do loadVar t (← asAddr (tmps.getD a undef))
theorem gets_raws{s:PS}:∀ {l:List PRes} {ys:List D},gets s l=some ys→∃ ds,raws s l=some ds∧imms s.st ds=some ys
 |[],ys,h=>by simp[gets]at h; subst h; exact⟨[],rfl,rfl⟩
 |r::l,ys,h=>by
  unfold gets at h
  split at h
  case h_2=>cases h
  rename_i x y hx hy
  simp only[Option.some.injEq]at h; subst h
  obtain⟨ds,h1,h2⟩:=gets_raws hy
  cases r with
  |tmp t=>
   exact⟨s.fr t::ds,by simp[raws,h1],by simp only[PRes.get]at hx; simp[imms,hx,h2]⟩
  |cell t n ag=>
   simp only[PRes.get]at hx
   split at hx
   ·rename_i d hd
    exact⟨d::ds,by simp[raws,hd,h1],by simp[imms,hx,h2]⟩
   ·cases hx
theorem raws_run{s:PS}{a:Act}{w:World}{g:Ghost}(hS:SR base w g s.st)(hF:FR w g s.st s.fr a):∀ {rs:List ResultVar} {l:List PRes} {ds:List D},trRes P rs=some l→raws s l=some ds→
  ∃ vs:List Value,ds.length=vs.length∧(∀ (i:Nat) d v,ds[i]?=some d→vs[i]?=some v→RepV w g s.st d v)∧
   (rs.mapM (resOne a.tmps)).run P w=.ok vs w
 |[],l,ds,ht,hr=>by
  simp[trRes]at ht; subst ht
  simp[raws]at hr; subst hr
  exact⟨[],rfl,fun i d v h=>by simp at h,rfl⟩
 |.tmp t::rs,l,ds,ht,hr=>by
  simp only[trRes,Option.map_eq_some_iff]at ht
  obtain⟨l',h1,rfl⟩:=ht
  simp only[raws,Option.map_eq_some_iff]at hr
  obtain⟨ds',h2,rfl⟩:=hr
  obtain⟨vs,e1,e2,e3⟩:=raws_run hS hF h1 h2
  refine⟨a.tmps.getD t undef::vs,by simp[e1],?_,?_⟩
  ·intro i d v hd hv
   cases i with
   |zero=>simp only[List.getElem?_cons_zero,Option.some.injEq]at hd hv; subst hd; subst hv; exact hF t
   |succ i=>simp only[List.getElem?_cons_succ]at hd hv; exact e2 i d v hd hv
  ·simp only[List.mapM_cons,resOne,Sem.run_bind,Sem.run_pure,Result.andThen_ok,e3]
 |.cell b t::rs,l,ds,ht,hr=>by
  unfold trRes at ht
  split at ht
  case h_2=>cases ht
  rename_i n ag l' hn ha h1
  simp only[Option.some.injEq]at ht; subst ht
  unfold raws at hr
  split at hr
  case h_2=>cases hr
  rename_i x y hx hy
  simp only[Option.some.injEq]at hr; subst hr
  obtain⟨vs,e1,e2,e3⟩:=raws_run hS hF h1 hy
  obtain⟨u,u1,u2⟩:=pload_run hS ha hn hx (hF b)
  refine⟨u::vs,by simp[e1],?_,?_⟩
  ·intro i d v hd hv
   cases i with
   |zero=>simp only[List.getElem?_cons_zero,Option.some.injEq]at hd hv; subst hd; subst hv; exact u2
   |succ i=>simp only[List.getElem?_cons_succ]at hd hv; exact e2 i d v hd hv
  ·have u3:=loadAt_var u1
   simp only[List.mapM_cons]
   rw[Sem.run_bind,show(resOne a.tmps (.cell b t)).run P w=.ok u w from u3]
   simp only[Result.andThen_ok,Sem.run_bind,Sem.run_pure,e3]
def packV:List Value→Value
 |[v]=>v
 |vs=>.tuple vs.toArray
theorem results_run{fn:Func}{tmps:Array Value}{w:World}{vs:List Value}
  (h:(fn.results.toList.mapM (resOne tmps)).run P w=.ok vs w) :
  (results fn tmps).run P w=.ok (packV vs) w:=by
 have hres:results fn tmps=(do let vs ← fn.results.mapM (resOne tmps); pure (if h:vs.size=1 then vs[0]else .tuple vs)):=rfl
 rw[hres,Sem.run_bind,Array.mapM_eq_mapM_toList]
 rw[Sem.run_map,h]
 simp only[Result.andThen_ok,Sem.run_pure]
 match vs with
 |[]=>rfl
 |[v]=>rfl
 |_::_::_=>simp[packV]
theorem pack_rep{w:World}{g:Ghost}{st:St}{ds:List D}{vs:List Value}(hl:ds.length=vs.length)(h:∀ (i:Nat) d v,ds[i]?=some d→vs[i]?=some v→RepV w g st d v) :
  RepV w g st (pack ds) (packV vs):=by
 match ds,vs,hl with
 |[],[],_=>exact .tup [] [] rfl h
 |[d],[v],_=>exact h 0 d v rfl rfl
 |_::_::_,_::_::_,hl=>exact .tup _ _ hl h
theorem pack_pur{ds:List D}(h:∀ d∈ds,purA d=true):purR (pack ds)=true:=by
 match ds with
 |[]=>rfl
 |[d]=>
  have:=h d (by simp)
  simp only[pack]
  cases d with
  |tup l=>simp[purA,D.pure1]at this
  |_=>exact this
 |x::y::l=>
  simp only[pack,purR,List.all_eq_true]
  exact h
theorem leaves_ok{fn:Func}{R:Ending→World→Prop}(hb0:base≤w0.heap.size){s:PS}{a:Act}{g:Ghost}:∀ (ds:List Deferred) (w:World),Go1 base w0 g0 st0 w g s.st→FR w g s.st s.fr a→DfOK w0 w ds→
  (∀ w',Go1 base w0 g0 st0 w' g s.st→FR w' g s.st s.fr a→∃ v,(results fn a.tmps).run P w'=.ok v w'∧R (.returned v) w')→LeavesInM Fence.wide 0 P fn a.tmps R ds .returning w
 |[],w,hgo,hF,_,h=>h w hgo hF
 |d::ds,w,hgo,hF,⟨⟨D,h1,h2,h3,h4⟩,h5⟩,h=>by
  subst h1
  refine⟨by simp,.inl ⟨D,_,rfl,run_takeDeferred h2,?_⟩⟩
  have hDw:w0.heap.size≤D:=by
   rcases Nat.lt_or_ge D w0.heap.size with e | e
   ·rw[Array.getElem?_eq_getElem e]at h3; cases h3
   ·exact e
  have hX:=GoX.put (o':=.deferred none) hgo.sr h2 rfl ⟨_,rfl⟩ (Nat.le_trans hb0 hDw)
  refine leaves_ok hb0 ds _ (((hgo.x D).trans hX).fin (fun o ho=>by rw[h3]at ho; cases ho)) (hF.mono hX.im hX.evo) ?_ h
  have:∀ (l:List Deferred),(∀ d'∈l,d'≠{target:=.collected D,args:=#[]})→DfOK w0 w l→DfOK w0 (w.putObj D (.deferred none)) l:=by
   intro l
   induction l with
   |nil=>exact fun _ _=>trivial
   |cons d l ih=>
    rintro hne ⟨⟨D',e1,e2,e3,e4⟩,e5⟩
    refine⟨⟨D',e1,?_,e3,e4⟩,ih (fun d' hd'=>hne d' (by simp[hd'])) e5⟩
    rw[World.putObj_heap_other]
    ·exact e2
    ·rintro rfl
     exact hne d (by simp) e1
  exact this ds h4 h5
theorem fun_core(hT:TblOK P G T){f:Nat}{hints:List (List Nat)}{F:PF}(ht:trF P il f hints=some F)(fuel:Nat):(∃ fn,P.funcs[f]?=some fn∧fn.body.isSome=true∧(fn.name == "runtime.NumGoroutine")=false)∧
  ∀ (base:Nat) (w:World) (g:Ghost) (st st':St) (ds:List D) (vs:List Value) (d:D),YOK P G T.y base w g st→F.runI G T fuel ds st=some (d,st')→SR base w g st→GlobOK G w g→ds.length=vs.length→
   (∀ (i:Nat) d v,ds[i]?=some d→vs[i]?=some v→RepV w g st d v)→Calls P f vs.toArray w fun e w'=>∃ v g',e=.returned v∧Go1 base w g st w' g' st'∧RepV w' g' st' d v:=by
 unfold trF at ht
 split at ht
 case h_2=>cases ht
 rename_i fn hfn
 split at ht
 case h_2=>cases ht
 rename_i c hc
 split at ht
 case h_2=>cases ht
 rename_i pc hrest res htc htr
 split at ht
 ·cases ht
 rename_i hname
 simp only[Option.some.injEq]at ht; subst ht
 refine⟨⟨fn,hfn,by rw[hc]; rfl,by simpa using hname⟩,?_⟩
 intro base w g st st' ds vs d hY hsp hS hG hlen hrep
 have key:∀ (e:Ex) (s':PS),pc.exec G T fuel {fr:=argF ds,st}=some (e,s')→((raws s' res).map fun l=>(pack l,s'.st))=some (d,st')→(e=.next∨e=.ret)→
   Calls P f vs.toArray w fun e w'=>∃ v g',e=.returned v∧Go1 base w g st w' g' st'∧RepV w' g' st' d v:=by
  intro e s' hex hget he
  refine callsIn_wide.1 (callsIn_of_wp_marks (F:=Fence.wide) (n:=0) hfn hc trivial ?_)
  have hR0:R G base fn.ntmps w g st [] {fr:=argF ds,st} {tmps:=vs.toArray++Array.replicate (fn.ntmps - vs.toArray.size) undef,defers:=[]} w:=by
   refine⟨g,Go1.refl hS,?_,hG,⟨[],rfl,trivial⟩,?_⟩
   ·intro s
    simp only[argF]
    rcases Nat.lt_or_ge s ds.length with h1 | h1
    ·have h2:s<vs.length:=by omega
     have h3:(vs.toArray++Array.replicate (fn.ntmps - vs.toArray.size) undef).getD s undef=vs[s]:=by
      simp[Array.getD,h2]
      intro h4
      omega
     rw[h3]
     have:=hrep s ds[s] vs[s] (by simp[h1]) (by simp[h2])
     simpa[List.getD_eq_getElem?_getD,h1]using this
    ·simp[List.getD_eq_getElem?_getD,List.getElem?_eq_none h1]
     exact .junk _
   ·simp; omega
  have fin:∀ a' w',R G base fn.ntmps w g st [] s' a' w'→LeavesInM Fence.wide 0 P fn a'.tmps (fun e w'=>∃ v g',e=.returned v∧Go1 base w g st w' g' st'∧RepV w' g' st' d v) a'.defers .returning w':=by
   rintro a' w' ⟨g1,h⟩
   obtain⟨dd,hd1,hd2⟩:=h.df
   rw[hd1,List.append_nil]
   refine leaves_ok hS.size dd w' h.go1 h.fr hd2 fun w2 hgo hF=>?_
   simp only[Option.map_eq_some_iff,Prod.mk.injEq]at hget
   obtain⟨xs,hx1,rfl,rfl⟩:=hget
   obtain⟨us,e1,e2,e3⟩:=raws_run hgo.sr hF htr hx1
   exact⟨_,results_run e3,_,g1,rfl,hgo,pack_rep e1 e2⟩
  refine code_sim hT c none (.inl rfl) w g st [] hY hS.size hints (pc,hrest) htc fuel _ s' e hex _ w _ hR0 ?_
  intro a' w' hR'
  rcases he with rfl | rfl
  ·exact fin a' w' hR'
  ·exact fin a' w' hR'
 simp only[PF.runI]at hsp
 split at hsp
 ·rename_i s' hs'; exact key _ s' hs' hsp (.inl rfl)
 ·rename_i s' hs'; exact key _ s' hs' hsp (.inr rfl)
 ·cases hsp
theorem leaves_panic{fn:Func}{R:Ending→World→Prop}{ch:List PanicEntry}(hb0:base≤w0.heap.size){s:PS}{a:Act}{g:Ghost}(rest:List Deferred):∀ (ds:List Deferred) (w:World),Go1 base w0 g0 st0 w g s.st→FR w g s.st s.fr a→DfOK w0 w ds→
  (∀ w',Go1 base w0 g0 st0 w' g s.st→FR w' g s.st s.fr a→LeavesInM Fence.wide 0 P fn a.tmps R rest (.panicking ch) w')→LeavesInM Fence.wide 0 P fn a.tmps R (ds++rest) (.panicking ch) w
 |[],w,hgo,hF,_,h=>h w hgo hF
 |d::ds,w,hgo,hF,⟨⟨D,h1,h2,h3,h4⟩,h5⟩,h=>by
  subst h1
  refine⟨by simp,.inl ⟨D,_,rfl,run_takeDeferred h2,?_⟩⟩
  have hDw:w0.heap.size≤D:=by
   rcases Nat.lt_or_ge D w0.heap.size with e | e
   ·rw[Array.getElem?_eq_getElem e]at h3; cases h3
   ·exact e
  have hX:=GoX.put (o':=.deferred none) hgo.sr h2 rfl ⟨_,rfl⟩ (Nat.le_trans hb0 hDw)
  refine leaves_panic hb0 rest ds _ (((hgo.x D).trans hX).fin (fun o ho=>by rw[h3]at ho; cases ho)) (hF.mono hX.im hX.evo) ?_ h
  have:∀ (l:List Deferred),(∀ d'∈l,d'≠{target:=.collected D,args:=#[]})→DfOK w0 w l→DfOK w0 (w.putObj D (.deferred none)) l:=by
   intro l
   induction l with
   |nil=>exact fun _ _=>trivial
   |cons d l ih=>
    rintro hne ⟨⟨D',e1,e2,e3,e4⟩,e5⟩
    refine⟨⟨D',e1,?_,e3,e4⟩,ih (fun d' hd'=>hne d' (by simp[hd'])) e5⟩
    rw[World.putObj_heap_other]
    ·exact e2
    ·rintro rfl
     exact hne d (by simp) e1
  exact this ds h4 h5
theorem leaves_ret{fn:Func}{R:Ending→World→Prop}(hb0:base≤w0.heap.size){s:PS}{a:Act}{g:Ghost}(rest:List Deferred):∀ (ds:List Deferred) (w:World),Go1 base w0 g0 st0 w g s.st→FR w g s.st s.fr a→DfOK w0 w ds→
  (∀ w',Go1 base w0 g0 st0 w' g s.st→FR w' g s.st s.fr a→LeavesInM Fence.wide 0 P fn a.tmps R rest .returning w')→LeavesInM Fence.wide 0 P fn a.tmps R (ds++rest) .returning w
 |[],w,hgo,hF,_,h=>h w hgo hF
 |d::ds,w,hgo,hF,⟨⟨D,h1,h2,h3,h4⟩,h5⟩,h=>by
  subst h1
  refine⟨by simp,.inl ⟨D,_,rfl,run_takeDeferred h2,?_⟩⟩
  have hDw:w0.heap.size≤D:=by
   rcases Nat.lt_or_ge D w0.heap.size with e | e
   ·rw[Array.getElem?_eq_getElem e]at h3; cases h3
   ·exact e
  have hX:=GoX.put (o':=.deferred none) hgo.sr h2 rfl ⟨_,rfl⟩ (Nat.le_trans hb0 hDw)
  refine leaves_ret hb0 rest ds _ (((hgo.x D).trans hX).fin (fun o ho=>by rw[h3]at ho; cases ho)) (hF.mono hX.im hX.evo) ?_ h
  have:∀ (l:List Deferred),(∀ d'∈l,d'≠{target:=.collected D,args:=#[]})→DfOK w0 w l→DfOK w0 (w.putObj D (.deferred none)) l:=by
   intro l
   induction l with
   |nil=>exact fun _ _=>trivial
   |cons d l ih=>
    rintro hne ⟨⟨D',e1,e2,e3,e4⟩,e5⟩
    refine⟨⟨D',e1,?_,e3,e4⟩,ih (fun d' hd'=>hne d' (by simp[hd'])) e5⟩
    rw[World.putObj_heap_other]
    ·exact e2
    ·rintro rfl
     exact hne d (by simp) e1
  exact this ds h4 h5
theorem start_R{fn:Func}{w:World}{g:Ghost}{st:St}{ds:List D}{vs:List Value}(hS:SR base w g st)(hG:GlobOK G w g)(hlen:ds.length=vs.length)(hrep:∀ (i:Nat) d v,ds[i]?=some d→vs[i]?=some v→RepV w g st d v) :
  R G base fn.ntmps w g st [] {fr:=argF ds,st} {tmps:=vs.toArray++Array.replicate (fn.ntmps - vs.toArray.size) undef,defers:=[]} w:=by
 refine⟨g,Go1.refl hS,?_,hG,⟨[],rfl,trivial⟩,?_⟩
 ·intro s
  simp only[argF]
  rcases Nat.lt_or_ge s ds.length with h1 | h1
  ·have h2:s<vs.length:=by omega
   have h3:(vs.toArray++Array.replicate (fn.ntmps - vs.toArray.size) undef).getD s undef=vs[s]:=by
    simp[Array.getD,h2]
    intro h4
    omega
   rw[h3]
   have:=hrep s ds[s] vs[s] (by simp[h1]) (by simp[h2])
   simpa[List.getD_eq_getElem?_getD,h1]using this
  ·simp[List.getD_eq_getElem?_getD,List.getElem?_eq_none h1]
   exact .junk _
 ·simp; omega
theorem fun_simX(hT:TblOK P G T)(hy:T.y=fun _ _ _=>none){f:Nat}{hints:List (List Nat)}{F:PF}(ht:trF P il f hints=some F)(fuel:Nat):XIContract P G f (F.runX G T fuel):=by
 refine⟨(fun_core hT ht fuel).1,?_⟩
 unfold trF at ht
 split at ht
 case h_2=>cases ht
 rename_i fn hfn
 split at ht
 case h_2=>cases ht
 rename_i c hc
 split at ht
 case h_2=>cases ht
 rename_i pc hrest res htc htr
 split at ht
 ·cases ht
 rename_i hname
 simp only[Option.some.injEq]at ht; subst ht
 intro base w g st st' ds vs t d hsp hS hG hlen hrep
 simp only[PF.runX]at hsp
 split at hsp
 case h_2=>cases hsp
 rename_i t1 d1 s' hex
 simp only[Option.some.injEq,Prod.mk.injEq]at hsp
 obtain⟨rfl,rfl,rfl⟩:=hsp
 refine callsIn_wide.1 (callsIn_of_wp_marks (F:=Fence.wide) (n:=0) hfn hc trivial ?_)
 refine code_sim hT c none (.inl rfl) w g st [] (by rw[hy]; exact YOK.none) hS.size hints (pc,hrest) htc fuel _ s' _ hex _ w _ (start_R hS hG hlen hrep) ?_
 rintro a' w' ⟨g1,h⟩
 obtain⟨dd,hd1,hd2⟩:=h.df
 show LeavesInM Fence.wide 0 P fn a'.tmps _ a'.defers (.panicking (chainOf t1 d1)) w'
 rw[hd1]
 refine leaves_panic hS.size [] dd w' h.go1 h.fr hd2 fun w2 hgo hF=>?_
 exact⟨g1,rfl,hgo⟩
def trFD(P:Program)(il:List Nat)(f:Nat)(hints:List (List Nat)):Option PFD:=
 match P.funcs[f]? with
 |some fn=>match fn.body with
  |some (.seq (.region _ ops0 false) (.seq (.region _ ops1 false) rest))=>match ops1.toList.reverse with
   |o::rpre=>match trIsU P il fn.ntmps ops0 ops0.toList,trIsU P il fn.ntmps ops1 rpre.reverse,trC P il fn.ntmps hints rest,trRes P fn.results.toList with
    |some pre,some pre1,some (pc,_),some res=>match o.op,o.guard,o.dst with
     |.defer c,none,none=>match c.callee with
      |.value x=>match trA x,trAs c.args.toList with
       |some hf,some ha=>if fn.name == "runtime.NumGoroutine" then none else some {pre:=pre++pre1,hf,ha,code:=pc,res}
       |_,_=>none
      |_=>none
     |_,_,_=>none
    |_,_,_,_=>none
   |[]=>none
  |_=>none
 |none=>none
theorem execs_append{G:Glob}{T:Tbl}:∀ (l l':List PI) (s:PS),execs G T (l++l') s=(execs G T l s).bind fun s'=>execs G T l' s'
 |[],_,_=>rfl
 |i::l,l',s=>by
  simp only[List.cons_append,execs]
  cases i.exec G T s with
  |none=>rfl
  |some s'=>exact execs_append l l' s'
theorem fun_simD(hT:TblOK P G T)(hy:T.y=fun _ _ _=>none){f:Nat}{hints:List (List Nat)}{F:PFD}(ht:trFD P il f hints=some F){H:HTbl}(hH:∀ f h,H f=some h→HContract P G f h)(fuel:Nat):IContract P G f (F.runI G T H fuel):=by
 unfold trFD at ht
 split at ht
 case h_2=>cases ht
 rename_i fn hfn
 split at ht
 case h_2=>cases ht
 rename_i id0 ops0 id1 ops1 rest hc
 split at ht
 case h_2=>cases ht
 rename_i o rpre hops1
 split at ht
 case h_2=>cases ht
 rename_i pre pre1 pc hrest res hpre hpre1 htc htr
 split at ht
 case h_2=>cases ht
 rename_i c hop hgd hds
 split at ht
 case h_2=>cases ht
 rename_i x hcal
 split at ht
 case h_2=>cases ht
 rename_i hf ha hhf hha
 split at ht
 ·cases ht
 rename_i hname
 simp only[Option.some.injEq]at ht; subst ht
 refine⟨⟨fn,hfn,by rw[hc]; rfl,by simpa using hname⟩,?_⟩
 intro base w g st st' ds vs d hsp hS hG hlen hrep
 simp only[PFD.runI]at hsp
 split at hsp
 case h_2=>cases hsp
 rename_i s1 hs1
 split at hsp
 case h_2=>cases hsp
 rename_i hfn' das hput
 split at hsp
 case h_2=>cases hsp
 rename_i h hHf
 rw[execs_append,Option.bind_eq_some_iff]at hs1
 obtain⟨s0,hs0,hs1⟩:=hs1
 refine callsIn_wide.1 (callsIn_of_wp_marks (F:=Fence.wide) (n:=0) hfn hc trivial ?_)
 refine wpIn_seq (wpIn_region_list (list_simU (r:=none) hT (by rw[hy]; exact YOK.none) _ _ _ s0 _ w hpre hs0 (start_R hS hG hlen hrep) ?_))
 intro a0 w0 hR0
 show Code.wpIn _ _ _ _ _ _ _
 refine wpIn_seq (wpIn_region_list ?_)
 have hl:ops1.toList=rpre.reverse++[o]:=by
  have:=congrArg List.reverse hops1
  simpa using this
 rw[hl]
 refine list_simUR (r:=none) hT (by rw[hy]; exact YOK.none) _ _ _ _ _ _ hpre1 hs1 hR0 ?_
 rintro a1 w1 ⟨g1,h1⟩
 obtain⟨dst,op,ty,pos,after,guard⟩:=o
 simp only at hop hgd hds
 subst hop; subst hgd; subst hds
 obtain⟨dd,hd1,hd2⟩:=h1.df
 rw[List.append_nil]at hd1
 have hev:∀ x pa,trA x=some pa→RepV w1 g1 s1.st (rho G s1.fr pa) (a1.eval x):=fun x pa h=>trA_rep (G:=G) h1.gl h1.fr h
 have hxv:=hev _ _ hhf
 obtain⟨q1,q2⟩:=trAs_spec hev hha
 have q1:(ha.map (rho G s1.fr)).length=(c.args.toList.map a1.eval).length:=by simpa using q1
 unfold putOff at hput
 split at hput
 case h_2=>cases hput
 rename_i hf' caps hclo
 split at hput
 case isFalse=>cases hput
 rename_i hlt
 simp only[Option.some.injEq,Prod.mk.injEq]at hput
 obtain⟨rfl,rfl⟩:=hput
 rw[hclo]at hxv
 generalize hxe:a1.eval x=xv at hxv
 obtain⟨us,hul,hur,rfl⟩:∃ us:List Value,caps.length=us.length∧(∀ (i:Nat) d v,caps[i]?=some d→us[i]?=some v→RepV w1 g1 s1.st d v)∧xv=.func (.func hf') #[] us.toArray:=by
  cases hxv with
  |clo _ _ us e1 e2=>exact⟨us,e1,e2,by rw[fnOf_lt hlt,firstOf_lt hlt,capsOf_lt hlt]⟩
 have hargs:c.args.map a1.eval=(c.args.toList.map a1.eval).toArray:=by
  apply Array.ext'
  simp
 generalize hav:c.args.toList.map a1.eval=av at q1 q2 hargs
 have hdef:(Oper.semAt (Wr none).round a1.eval {dst:=none,op:=.defer c,type:=ty,pos:=pos,after:=after,guard:=none}).run P w1=.ok (.defer {target:=.fn (.func hf') us.toArray,args:=av.toArray}) w1:=by
  show(execOp a1.eval {dst:=none,op:=.defer c,type:=ty,pos:=pos,after:=after,guard:=none}).run P w1=_
  simp only[execOp,resolve,hcal,hargs,hxe,Deferred.ofValue,Array.empty_append]
  rfl
 have hw1:Region.wanted ({dst:=none,op:=.defer c,type:=ty,pos:=pos,after:=after,guard:=none}:Oper) (yielded ops1 a1.tmps)=true:=by simp[Region.wanted]
 simp only[wpListIn,hw1,if_true]
 refine⟨fun _ _=>trivial,?_⟩
 rw[hdef,Oper.uponIn_defer]
 show Code.wpIn _ _ _ _ _ _ _
 have hR1:R G base fn.ntmps w1 g1 s1.st ({target:=.fn (.func hf') us.toArray,args:=av.toArray}::dd) s1 ({a1 with defers:={target:=.fn (.func hf') us.toArray,args:=av.toArray}::a1.defers}.put none undef) w1:=by
  refine⟨g1,Go1.refl h1.sr,h1.fr,h1.gl,⟨[],?_,trivial⟩,h1.sz⟩
  simp[Act.put,hd1]
 obtain⟨⟨hfn',hhf,hhb,hhn⟩,hcon⟩:=hH _ _ hHf
 have hinv:∀ w2,(invoke (.fn (.func hf') us.toArray) av.toArray).run P w2=.ok (.enter hf' (av++us).toArray) w2:=by
  intro w2
  have hbn:¬ hfn'.body=none:=by
   intro e; rw[e]at hhb; cases hhb
  have hn':¬ hfn'.name= "runtime.NumGoroutine":=by simpa using hhn
  simp[invoke,callFunc,hhf,hn',hbn]
 have hdl:(ha.map (rho G s1.fr)++caps).length=(av++us).length:=by simp only[List.length_append,q1,hul]
 have hdr:=rep_append q1 q2 hur
 have hrt:=h1.go1.sr.size
 have fin:∀ (s3:PS) (a':Act) (w3:World) (g3:Ghost),(raws s3 res).map (fun l=>(pack l,s3.st))=some (d,st')→FR w3 g3 s3.st s3.fr a'→Go1 base w g st w3 g3 s3.st→DfOK w w3 dd→
   LeavesInM Fence.wide 0 P fn a'.tmps (fun e w'=>∃ v g',e=.returned v∧Go1 base w g st w' g' st'∧RepV w' g' st' d v) dd .returning w3:=by
  intro s3 a' w3 g3 hget hF hgo hdf
  have:=leaves_ok (P:=P) (fn:=fn) (R:=fun e w'=>∃ v g',e=.returned v∧Go1 base w g st w' g' st'∧RepV w' g' st' d v) hS.size dd w3 hgo hF hdf (fun w4 hgo4 hF4=>by
   simp only[Option.map_eq_some_iff,Prod.mk.injEq]at hget
   obtain⟨xs,hx1,rfl,rfl⟩:=hget
   obtain⟨us,e1,e2,e3⟩:=raws_run hgo4.sr hF4 htr hx1
   exact⟨_,results_run e3,_,g3,rfl,hgo4,pack_rep e1 e2⟩)
  exact this
 have done:∀ (e:Ex) (s':PS),pc.exec G T fuel s1=some (e,s')→(e=.next∨e=.ret)→(raws s' res).map (fun l=>(pack l,s'.st))=some (d,st')→
   ∀ a' w',R G base fn.ntmps w1 g1 s1.st ({target:=.fn (.func hf') us.toArray,args:=av.toArray}::dd) s' a' w'→LeavesInM Fence.wide 0 P fn a'.tmps (fun e w'=>∃ v g',e=.returned v∧Go1 base w g st w' g' st'∧RepV w' g' st' d v) a'.defers .returning w':=by
  rintro e s' hex he hget a' w' ⟨g2,h⟩
  obtain⟨d2,hd3,hd4⟩:=h.df
  rw[hd3]
  refine leaves_ret hrt _ d2 w' h.go1 h.fr hd4 fun w2 hgo hF=>?_
  refine⟨by simp,.inr ⟨(by intro e; cases e),.func hf',us.toArray,hf',(av++us).toArray,rfl,hinv w2,fun _ _=>trivial,?_⟩⟩
  have hG2:GlobOK G w2 g2:=h1.gl.mono hgo.im
  refine((hcon base w2 g2 s'.st _ _ hgo.sr hG2 hdl (fun i d v h1 h2=>hgo.rep (hdr i d v h1 h2))).1).mono ?_
  rintro e u w3 ⟨rfl,rfl,g3,hgo3⟩
  exact fin s' a' w3 g3 hget (hF.mono hgo3.im hgo3.evo) (h1.go1.trans (hgo.trans hgo3)) ((hd2.mono hgo.kp).mono hgo3.kp)
 split at hsp
 ·rename_i s' hex
  refine code_sim hT rest none (.inl rfl) w1 g1 s1.st _ (by rw[hy]; exact YOK.none) hrt hints (pc,_) htc fuel _ s' _ hex _ w1 _ hR1 fun a' w' hR'=>?_
  exact done _ s' hex (.inl rfl) hsp a' w' hR'
 ·rename_i s' hex
  refine code_sim hT rest none (.inl rfl) w1 g1 s1.st _ (by rw[hy]; exact YOK.none) hrt hints (pc,_) htc fuel _ s' _ hex _ w1 _ hR1 fun a' w' hR'=>?_
  exact done _ s' hex (.inr rfl) hsp a' w' hR'
 ·rename_i t d2 s' hex
  split at hsp
  case h_2=>cases hsp
  rename_i st3 hst3
  refine code_sim hT rest none (.inl rfl) w1 g1 s1.st _ (by rw[hy]; exact YOK.none) hrt hints (pc,_) htc fuel _ s' _ hex _ w1 _ hR1 ?_
  rintro a' w' ⟨g2,h⟩
  obtain⟨d3,hd3,hd4⟩:=h.df
  show LeavesInM Fence.wide 0 P fn a'.tmps _ a'.defers (.panicking (chainOf t d2)) w'
  rw[hd3]
  refine leaves_panic hrt _ d3 w' h.go1 h.fr hd4 fun w2 hgo hF=>?_
  refine⟨by simp,.inr ⟨(by intro e; cases e),.func hf',us.toArray,hf',(av++us).toArray,rfl,hinv w2,fun _ _=>trivial,?_⟩⟩
  have hG2:GlobOK G w2 g2:=h1.gl.mono hgo.im
  refine((hcon base w2 g2 s'.st _ _ hgo.sr hG2 hdl (fun i d v h1 h2=>hgo.rep (hdr i d v h1 h2))).2 t d2 st3 hst3).mono ?_
  rintro e u w3 ⟨rfl,rfl,g3,hgo3⟩
  exact fin ⟨s'.fr,st3⟩ a' w3 g3 hsp (hF.mono hgo3.im hgo3.evo) (h1.go1.trans (hgo.trans hgo3)) ((hd2.mono hgo.kp).mono hgo3.kp)
 ·cases hsp
theorem fun_simI(hT:TblOK P G T)(hy:T.y=fun _ _ _=>none){f:Nat}{hints:List (List Nat)}{F:PF}(ht:trF P il f hints=some F)(fuel:Nat):IContract P G f (F.runI G T fuel):=
 ⟨(fun_core hT ht fuel).1,fun base w g st st' ds vs d hsp hS hG hl hr=>(fun_core hT ht fuel).2 base w g st st' ds vs d (by rw[hy]; exact YOK.none) hsp hS hG hl hr⟩
theorem fun_sim(hT:TblOK P G T)(hy:T.y=fun _ _ _=>none){f:Nat}{hints:List (List Nat)}{F:PF}(ht:trF P il f hints=some F)(fuel:Nat):Contract P G f (F.run G T fuel):=by
 intro w g ds vs d hsp hG hIm hlen hrep _
 unfold trF at ht
 split at ht
 case h_2=>cases ht
 rename_i fn hfn
 split at ht
 case h_2=>cases ht
 rename_i c hc
 split at ht
 case h_2=>cases ht
 rename_i pc hrest res htc htr
 split at ht
 ·cases ht
 simp only[Option.some.injEq]at ht; subst ht
 have hS:SR w.heap.size w g []:=⟨fun k o h=>by simp at h,fun k o h=>by simp at h,fun k k' o o' h=>by simp at h,hIm,fun k o x h=>by simp at h,Nat.le_refl _⟩
 have key:∀ (e:Ex) (s':PS),pc.exec G T fuel {fr:=argF ds,st:=[]}=some (e,s')→(gets s' res).map pack=some d→(e=.next∨e=.ret)→
   Calls P f vs.toArray w fun e w'=>∃ v g',e=.returned v∧RepV w' g' [] d v∧purR d=true∧ImLe w g w' g'∧(∀ b o,g'.Im b o→g.Im b o∨w.heap.size≤b)∧
   (∀ b o,g'.Im b o→(w'.cell? ⟨b,o,none⟩).isSome=true)∧Below w.heap.size w w':=by
  intro e s' hex hget he
  refine callsIn_wide.1 (callsIn_of_wp_marks (F:=Fence.wide) (n:=0) hfn hc trivial ?_)
  have hR0:R G w.heap.size fn.ntmps w g [] [] {fr:=argF ds,st:=[]} {tmps:=vs.toArray++Array.replicate (fn.ntmps - vs.toArray.size) undef,defers:=[]} w:=by
   refine⟨g,Go1.refl hS,?_,hG,⟨[],rfl,trivial⟩,?_⟩
   ·intro s
    simp only[argF]
    rcases Nat.lt_or_ge s ds.length with h1 | h1
    ·have h2:s<vs.length:=by omega
     have h3:(vs.toArray++Array.replicate (fn.ntmps - vs.toArray.size) undef).getD s undef=vs[s]:=by
      simp[Array.getD,h2]
      intro h4
      omega
     rw[h3]
     have:=hrep s ds[s] vs[s] (by simp[h1]) (by simp[h2])
     simpa[List.getD_eq_getElem?_getD,h1]using this
    ·simp[List.getD_eq_getElem?_getD,List.getElem?_eq_none h1]
     exact .junk _
   ·simp; omega
  have fin:∀ a' w',R G w.heap.size fn.ntmps w g [] [] s' a' w'→LeavesInM Fence.wide 0 P fn a'.tmps (fun e w'=>∃ v g',e=.returned v∧RepV w' g' [] d v∧purR d=true∧ImLe w g w' g'∧(∀ b o,g'.Im b o→g.Im b o∨w.heap.size≤b)∧
   (∀ b o,g'.Im b o→(w'.cell? ⟨b,o,none⟩).isSome=true)∧Below w.heap.size w w') a'.defers .returning w':=by
   rintro a' w' ⟨g1,h⟩
   obtain⟨dd,hd1,hd2⟩:=h.df
   rw[hd1,List.append_nil]
   refine leaves_ok (Nat.le_refl _) dd w' h.go1 h.fr hd2 fun w2 hgo1 hF=>?_
   simp only[Option.map_eq_some_iff]at hget
   obtain⟨ys,hys,rfl⟩:=hget
   obtain⟨xs,hx1,hx2⟩:=gets_raws hys
   obtain⟨us,e1,e2,e3⟩:=raws_run hgo1.sr hF htr hx1
   obtain⟨g2,hgo,_,e5,e6,e7⟩:=lend_args hgo1.sr hx2
   have hall:=hgo1.trans hgo
   refine⟨_,results_run e3,_,g2,rfl,?_,pack_pur e6,hall.im,hall.new,hall.sr.im,hall.below⟩
   have h8:=pack_rep (g:=g2) (w:=w2) (ds:=ys) (vs:=us) (by omega) fun i y v hy hv=>e7 i y v hy fun x hx=>e2 i x v hx hv
   exact h8.purR (ImLe.refl _ _) (pack_pur e6)
  refine code_sim hT c none (.inl rfl) w g [] [] (by rw[hy]; exact YOK.none) (Nat.le_refl _) hints (pc,hrest) htc fuel _ s' e hex _ w _ hR0 ?_
  intro a' w' hR'
  rcases he with rfl | rfl
  ·exact fin a' w' hR'
  ·exact fin a' w' hR'
 simp only[PF.run]at hsp
 split at hsp
 ·rename_i s' hs'; exact key _ s' hs' hsp (.inl rfl)
 ·rename_i s' hs'; exact key _ s' hs' hsp (.inr rfl)
 ·cases hsp
theorem fun_spec(hT:TblOK P G T)(hy:T.y=fun _ _ _=>none){f:Nat}{hints:List (List Nat)}{F:PF}(ht:trF P il f hints=some F){sp:List D→Option D}(h:∀ ds d,sp ds=some d→∃ fuel,F.run G T fuel ds=some d):Contract P G f sp:=by
 intro w g ds vs d hd
 obtain⟨fuel,hf⟩:=h ds d hd
 exact fun_sim hT hy ht fuel w g ds vs d hf
end
end Go.Proofs.YtfbbaceiimdejaaGreatDoor.PI
namespace Go.Proofs.YtfbbaceiimdejaaGreatDoor.PI
open Go Go.RowKit
inductive Ty where
 |bool
 |int (k:IntKind)
 |str
 |slc (e:Ty)
 |agg (fs:List Ty)
 /-- a slice whose elements' type is told of in another way -/
 |opq (Q:D→Prop)
 deriving Inhabited
mutual
def Ty.size:Ty→Nat
 |.agg fs=>Ty.sizes fs
 |_=>1
def Ty.sizes:List Ty→Nat
 |[]=>0
 |f::r=>f.size+Ty.sizes r
end
inductive Has:Ty→D→Prop
 |bool (b:Bool):Has .bool (.bool b)
 |int (k:IntKind) (n:Int):(Lit.int k n).wf=true→Has (.int k) (.int k n)
 |str (s:List UInt8):s.length≤maxLen→Has .str (.str s)
 |slc (e:Ty) (els:List D):(∀ (i:Nat) x,els[i]?=some x→Has e x)→els.length≤maxLen→Has (.slc e) (.slc (nz e.size els) els false)
 |opq (Q:D→Prop) (sz:Nat) (els:List D):Q (.slc (nz sz els) els false)→Has (.opq Q) (.slc (nz sz els) els false)
 |agg (fs:List Ty) (xs:List D):fs.length=xs.length→(∀ (i:Nat) f x,fs[i]?=some f→xs[i]?=some x→Has f x)→Has (.agg fs) (.agg (xs.flatMap D.cells))
def offsOK(P:Program):Nat→List Field→List Ty→Bool
 |_,[],[]=>true
 |o,f::fs,t::ts=>f.offset == o && P.cellsOf f.type == t.size && offsOK P (o+t.size) fs ts
 |_,_,_=>false
def tysOf(tf:TypeId→Option Ty):List Field→Option (List Ty)
 |[]=>some []
 |f::fs=>match tf f.type,tysOf tf fs with
  |some t,some ts=>some (t::ts)
  |_,_=>none
inductive TyD (P:Program):TypeId→D→Prop
 |bool (t:TypeId) (b:Bool):P.underlying t=some .bool→TyD P t (.bool b)
 |int (t:TypeId) (k:IntKind) (n:Int):P.underlying t=some (.int k)→(Lit.int k n).wf=true→TyD P t (.int k n)
 |str (t:TypeId) (s:List UInt8):P.underlying t=some .string→s.length≤maxLen→TyD P t (.str s)
 |slc (t e:TypeId) (els:List D):P.underlying t=some (.slice e)→(∀ x∈els,TyD P e x)→els.length≤maxLen→TyD P t (.slc (nz (P.cellsOf e) els) els false)
 |agg (t:TypeId) (fs:Array Field) (xs:List D):P.underlying t=some (.struct fs)→fs.toList.length=xs.length→(∀ (i:Nat) f x,fs.toList[i]?=some f→xs[i]?=some x→TyD P f.type x)→TyD P t (.agg (xs.flatMap D.cells))
 |arr (t:TypeId) (m:Nat) (e:TypeId) (xs:List D):P.underlying t=some (.array m e)→xs.length=m→(∀ x∈xs,TyD P e x)→TyD P t (.agg (xs.flatMap D.cells))
def offsC(P:Program):Nat→Nat→List Field→Bool
 |o,n,[]=>o == n
 |o,n,f::fs=>f.offset == o && offsC P (o+P.cellsOf f.type) n fs
def closedIn(P:Program)(S:List TypeId)(t:TypeId):Bool:=match P.underlying t with
 |some .bool | some (.int _) | some .string=>P.cellsOf t == 1
 |some (.slice e)=>S.contains e && decide (0<P.cellsOf e) && P.cellsOf t == 1
 |some (.struct fs)=>fs.toList.all (fun f=>S.contains f.type) && offsC P 0 (P.cellsOf t) fs.toList
 |some (.array m e)=>S.contains e && P.cellsOf t == m*P.cellsOf e
 |_=>false
def closed(P:Program)(S:List TypeId):Bool:=S.all (closedIn P S)
def below1(P:Program)(t:TypeId):List TypeId:=match P.underlying t with
 |some (.slice e) | some (.array _ e)=>[e]
 |some (.struct fs)=>fs.toList.map (·.type)
 |_=>[]
def clos(P:Program):Nat→List TypeId→List TypeId
 |0,S=>S
 |n+1,S=>clos P n ((S++S.flatMap (below1 P)).eraseDups)
def tyOf(P:Program):Nat→TypeId→Option Ty
 |0,_=>none
 |n+1,t=>match P.underlying t with
  |some .bool=>some .bool
  |some (.int k)=>some (.int k)
  |some .string=>some .str
  |some (.slice e)=>match tyOf P n e with
   |some x=>if P.cellsOf e == x.size && decide (0<x.size)then some (.slc x)else none
   |none=>if closed P (clos P 6 [t]) && (clos P 6 [t]).contains t then some (.opq (TyD P t))else none
  |some (.struct fs)=>match tysOf (tyOf P n) fs.toList with
   |some ts=>if offsOK P 0 fs.toList ts && P.cellsOf t == Ty.sizes ts then some (.agg ts)else none
   |none=>none
  |some (.array m e)=>match tyOf P n e with
   |some x=>if P.cellsOf e == x.size && P.cellsOf t == m*x.size then some (.agg (List.replicate m x))else none
   |none=>none
  |_=>none
def allIm(w:World):Nat→Nat→Prop:=fun b o=>(w.cell? ⟨b,o,none⟩).isSome=true
def ghost0(w:World):Ghost:={β:=id,γ:=id,Im:=allIm w}
section
variable {H:Type} {enc:TypeId×Value→H} {P:Program} {w:World}
def RepL(w:World)(xs:List D)(cs:List Value):Prop:=xs.length=cs.length∧(∀ (j:Nat) y v,xs[j]?=some y→cs[j]?=some v→RepV w (ghost0 w) [] y v)∧∀ y∈xs,y.pure1=true
theorem RepL.nil:RepL w [] []:=⟨rfl,fun j y v h=>by simp at h,fun y h=>by cases h⟩
theorem RepL.append{xs ys:List D}{cs ds:List Value}(h:RepL w xs cs)(h':RepL w ys ds):RepL w (xs++ys) (cs++ds):=by
 refine⟨by simp[h.1,h'.1],fun j y v hy hv=>?_,fun y hy=>?_⟩
 ·rcases Nat.lt_or_ge j xs.length with hj | hj
  ·rw[List.getElem?_append_left hj]at hy
   rw[List.getElem?_append_left (by rw[← h.1]; exact hj)]at hv
   exact h.2.1 j y v hy hv
  ·rw[List.getElem?_append_right hj]at hy
   rw[List.getElem?_append_right (by rw[← h.1]; exact hj),← h.1]at hv
   exact h'.2.1 _ y v hy hv
 ·rcases List.mem_append.1 hy with hy | hy
  ·exact h.2.2 y hy
  ·exact h'.2.2 y hy
theorem RepL.one{x:D}{v:Value}(h:RepV w (ghost0 w) [] x v)(hp:x.pure1=true):RepL w x.cells [v]:=by
 rw[pure1_cells hp]
 refine⟨rfl,fun j y u hy hu=>?_,fun y hy=>?_⟩
 ·cases j with
  |zero=>simp at hy hu; subst hy; subst hu; exact h
  |succ j=>simp at hy
 ·simp at hy; subst hy; exact hp
theorem str_of{s:ByteArray}:RepV w (ghost0 w) [] (.str s.data.toList) (.string s):=str_rep s _ rfl
mutual
def wt:D→Nat
 |.slc _ els _=>wts els+1
 |.agg l=>wts l
 |.str s=>s.length+1
 |.int _ _=>1
 |.bool _=>1
 |_=>0
def wts:List D→Nat
 |[]=>0
 |d::l=>wt d+wts l
end
mutual
def blk{H:Type}:DataW H→Nat
 |.lit (.string s)=>s.length+1
 |.lit _=>1
 |.nil=>1
 |.slice e _=>blks e+1
 |.agg p=>blks p
 |_=>0
def blks{H:Type}:List (DataW H)→Nat
 |[]=>0
 |d::l=>blk d+blks l
end
theorem wts_append:∀ (a b:List D),wts (a++b)=wts a+wts b
 |[],b=>by simp[wts]
 |x::a,b=>by rw[List.cons_append,wts,wts,wts_append a b]; omega
theorem wts_cells(d:D):wts d.cells=wt d:=by
 cases d <;> simp[D.cells,wts,wt]
theorem wts_le:∀ (a:List D) (b:List (DataW H)),a.length=b.length→(∀ (i:Nat) x y,a[i]?=some x→b[i]?=some y→wt x≤blk y)→wts a≤blks b
 |[],b,_,_=>by simp[wts]
 |x::a,[],h,_=>by simp at h
 |x::a,y::b,h,hle=>by
  have h1:=hle 0 x y rfl rfl
  have h2:=wts_le a b (by simpa using h) (fun i x y hx hy=>hle (i+1) x y (by simpa using hx) (by simpa using hy))
  simp only[wts,blks]
  omega
def Reads(enc:TypeId×Value→H)(P:Program)(w:World)(sp:Nat→Bool)(t:TypeId)(ty:Ty):Prop:=
 ∀ (fuel:Nat) (cs:List Value) (x:DataW H×List MemPlace),DataW.trod enc P w 0 sp true fuel t cs=some x→∃ d,Has ty d∧RepL w d.cells cs∧cs.length=ty.size∧((∃ fs,ty=.agg fs)∨d.pure1=true)∧wt d≤blk x.1
theorem fields_reads{sp:Nat→Bool}{tf:TypeId→Option Ty}(htf:∀ t ty,tf t=some ty→Reads enc P w sp t ty)(fuel:Nat)(cs:List Value):∀ (fs:List Field) (ts:List Ty) (o:Nat) (ys:List (DataW H×List MemPlace)),
  tysOf tf fs=some ts→offsOK P o fs ts=true→fs.mapM (fun f=>DataW.trod enc P w 0 sp true fuel f.type ((cs.drop f.offset).take (P.cellsOf f.type)))=some ys→
  ∃ xs:List D,ts.length=xs.length∧(∀ (i:Nat) f x,ts[i]?=some f→xs[i]?=some x→Has f x)∧RepL w (xs.flatMap D.cells) ((cs.drop o).take (Ty.sizes ts))∧(o≤cs.length→o+Ty.sizes ts≤cs.length)∧wts (xs.flatMap D.cells)≤blks (ys.map (·.1))
 |[],ts,o,ys,h1,h2,h3=>by
  simp[tysOf]at h1; subst h1
  exact⟨[],rfl,fun i f x h=>by simp at h,by simpa[Ty.sizes]using RepL.nil,fun h=>by simpa[Ty.sizes]using h,by simp[wts]⟩
 |f::fs,ts,o,ys,h1,h2,h3=>by
  unfold tysOf at h1
  split at h1
  case h_2=>cases h1
  rename_i t ts' ht hts
  simp only[Option.some.injEq]at h1; subst h1
  simp only[offsOK,Bool.and_eq_true,beq_iff_eq]at h2
  obtain⟨⟨e1,e2⟩,e3⟩:=h2
  simp only[List.mapM_cons,Option.bind_eq_bind,Option.bind_eq_some_iff,Option.pure_def,Option.some.injEq]at h3
  obtain⟨y,hy,ys',hys,rfl⟩:=h3
  rw[e1,e2]at hy
  obtain⟨d,d1,d2,d3,_,d5⟩:=htf _ _ ht fuel _ _ hy
  obtain⟨xs,x1,x2,x3,x4,x5⟩:=fields_reads htf fuel cs fs ts' (o+t.size) ys' hts e3 hys
  have hlen:o+t.size≤cs.length∨t.size=0:=by
   simp only[List.length_take,List.length_drop]at d3
   omega
  refine⟨d::xs,by simp[x1],?_,?_,?_,?_⟩
  ·intro i f' x hf hx
   cases i with
   |zero=>simp at hf hx; subst hf; subst hx; exact d1
   |succ i=>simp at hf hx; exact x2 i f' x hf hx
  ·have:=d2.append x3
   simp only[List.flatMap_cons,Ty.sizes]
   rw[List.take_add,List.drop_drop]
   exact this
  ·intro ho
   simp only[Ty.sizes]
   have:=x4 (by omega)
   omega
  ·simp only[List.flatMap_cons,wts_append,wts_cells,List.map_cons,blks]
   omega
theorem items_reads{sp:Nat→Bool}{e:TypeId}{x:Ty}(hr:Reads enc P w sp e x)(hc:P.cellsOf e=x.size)(fuel:Nat)(cs:List Value):∀ (n k:Nat) (ys:List (DataW H×List MemPlace)),
  (List.range' k n).mapM (fun i=>DataW.trod enc P w 0 sp true fuel e ((cs.drop (i*P.cellsOf e)).take (P.cellsOf e)))=some ys→
  ∃ xs:List D,xs.length=n∧(∀ (i:Nat) y,xs[i]?=some y→Has x y)∧RepL w (xs.flatMap D.cells) ((cs.drop (k*x.size)).take (n*x.size))∧wts (xs.flatMap D.cells)≤blks (ys.map (·.1))
 |0,k,ys,h=>⟨[],rfl,fun i y h=>by simp at h,by simpa using RepL.nil,by simp[wts]⟩
 |n+1,k,ys,h=>by
  simp only[List.range'_succ,List.mapM_cons,Option.bind_eq_bind,Option.bind_eq_some_iff,Option.pure_def,Option.some.injEq]at h
  obtain⟨y,hy,ys',hys,rfl⟩:=h
  rw[hc]at hy
  obtain⟨d,d1,d2,d3,_,d5⟩:=hr fuel _ _ hy
  obtain⟨xs,x1,x2,x3,x5⟩:=items_reads hr hc fuel cs n (k+1) ys' hys
  refine⟨d::xs,by simp[x1],?_,?_,?_⟩
  ·intro i y hy
   cases i with
   |zero=>simp at hy; subst hy; exact d1
   |succ i=>simp at hy; exact x2 i y hy
  ·have:=d2.append x3
   simp only[List.flatMap_cons]
   rw[Nat.add_mul,Nat.one_mul,Nat.add_comm (n*x.size),List.take_add,List.drop_drop]
   rw[Nat.add_mul,Nat.one_mul]at this
   exact this
  ·simp only[List.flatMap_cons,wts_append,wts_cells,List.map_cons,blks]
   omega
theorem Ty.sizes_replicate(x:Ty):∀ m,Ty.sizes (List.replicate m x)=m*x.size
 |0=>by simp[Ty.sizes]
 |m+1=>by rw[List.replicate_succ,Ty.sizes,Ty.sizes_replicate x m,Nat.add_mul,Nat.one_mul,Nat.add_comm]
theorem cells?_get{base:Nat}{a:Addr}{n:Nat}{cs:List Value}(h:w.cells? base a n=some cs):cs.length=n∧∀ (j:Nat) v,cs[j]?=some v→w.cell? (a.add j)=some v:=by
 unfold World.cells? at h
 split at h
 ·have hl:cs.length=n:=by simpa using Lib.mapM_length h
  refine⟨hl,fun j v hv=>?_⟩
  have hj:j<n:=by rw[← hl]; exact(List.getElem?_eq_some_iff.1 hv).1
  obtain⟨b,hb,hf⟩:=Lib.mapM_at h j j (by simp[hj])
  rw[hv]at hb
  rw[hf,Option.some.inj hb]
 ·cases h
def ReadsD(enc:TypeId×Value→H)(P:Program)(w:World)(sp:Nat→Bool)(fuel:Nat)(t:TypeId):Prop:=
 ∀ (cs:List Value) (x:DataW H×List MemPlace),DataW.trod enc P w 0 sp true fuel t cs=some x→∃ d,TyD P t d∧RepL w d.cells cs∧cs.length=P.cellsOf t∧((∃ l,d=.agg l)∨d.pure1=true)∧wt d≤blk x.1
theorem fieldsD_reads{sp:Nat→Bool}{fuel:Nat}(cs:List Value)(n:Nat):∀ (fs:List Field) (o:Nat) (ys:List (DataW H×List MemPlace)),(∀ f∈fs,ReadsD enc P w sp fuel f.type)→offsC P o n fs=true→
  fs.mapM (fun f=>DataW.trod enc P w 0 sp true fuel f.type ((cs.drop f.offset).take (P.cellsOf f.type)))=some ys→
  ∃ xs:List D,fs.length=xs.length∧(∀ (i:Nat) f x,fs[i]?=some f→xs[i]?=some x→TyD P f.type x)∧RepL w (xs.flatMap D.cells) ((cs.drop o).take (n - o))∧o≤n∧wts (xs.flatMap D.cells)≤blks (ys.map (·.1))
 |[],o,ys,_,h2,h3=>by
  simp only[offsC,beq_iff_eq]at h2
  subst h2
  exact⟨[],rfl,fun i f x h=>by simp at h,by simpa using RepL.nil,Nat.le_refl _,by simp[wts]⟩
 |f::fs,o,ys,htf,h2,h3=>by
  simp only[offsC,Bool.and_eq_true,beq_iff_eq]at h2
  obtain⟨e1,e3⟩:=h2
  simp only[List.mapM_cons,Option.bind_eq_bind,Option.bind_eq_some_iff,Option.pure_def,Option.some.injEq]at h3
  obtain⟨y,hy,ys',hys,rfl⟩:=h3
  rw[e1]at hy
  obtain⟨d,d1,d2,d3,_,d5⟩:=htf f (by simp) _ _ hy
  obtain⟨xs,x1,x2,x3,x4,x5⟩:=fieldsD_reads cs n fs (o+P.cellsOf f.type) ys' (fun g hg=>htf g (by simp[hg])) e3 hys
  refine⟨d::xs,by simp[x1],?_,?_,by omega,?_⟩
  ·intro i f' x hf hx
   cases i with
   |zero=>simp at hf hx; subst hf; subst hx; exact d1
   |succ i=>simp at hf hx; exact x2 i f' x hf hx
  ·have:=d2.append x3
   simp only[List.flatMap_cons]
   rw[show n - o=P.cellsOf f.type+(n - (o+P.cellsOf f.type)) by omega,List.take_add,List.drop_drop]
   exact this
  ·simp only[List.flatMap_cons,wts_append,wts_cells,List.map_cons,blks]
   omega
theorem itemsD_reads{sp:Nat→Bool}{fuel:Nat}{e:TypeId}(hr:ReadsD enc P w sp fuel e)(cs:List Value):∀ (n k:Nat) (ys:List (DataW H×List MemPlace)),
  (List.range' k n).mapM (fun i=>DataW.trod enc P w 0 sp true fuel e ((cs.drop (i*P.cellsOf e)).take (P.cellsOf e)))=some ys→
  ∃ xs:List D,xs.length=n∧(∀ y∈xs,TyD P e y)∧RepL w (xs.flatMap D.cells) ((cs.drop (k*P.cellsOf e)).take (n*P.cellsOf e))∧wts (xs.flatMap D.cells)≤blks (ys.map (·.1))
 |0,k,ys,h=>⟨[],rfl,(fun y h=>by cases h),by simpa using RepL.nil,by simp[wts]⟩
 |n+1,k,ys,h=>by
  simp only[List.range'_succ,List.mapM_cons,Option.bind_eq_bind,Option.bind_eq_some_iff,Option.pure_def,Option.some.injEq]at h
  obtain⟨y,hy,ys',hys,rfl⟩:=h
  obtain⟨d,d1,d2,d3,_,d5⟩:=hr _ _ hy
  obtain⟨xs,x1,x2,x3,x5⟩:=itemsD_reads hr cs n (k+1) ys' hys
  refine⟨d::xs,by simp[x1],?_,?_,?_⟩
  ·intro y hy
   rcases List.mem_cons.1 hy with rfl | hy
   ·exact d1
   ·exact x2 y hy
  ·have:=d2.append x3
   simp only[List.flatMap_cons]
   rw[Nat.add_mul,Nat.one_mul,Nat.add_comm (n*P.cellsOf e),List.take_add,List.drop_drop]
   rw[Nat.add_mul,Nat.one_mul]at this
   exact this
  ·simp only[List.flatMap_cons,wts_append,wts_cells,List.map_cons,blks]
   omega
theorem slice_reads{Q:D→Prop}{sz:Nat}{a:Addr}{len cap:Nat}{bs:Nat→Nat}(hpos:0<sz)(hlc:len≤cap)
  (hall:∀ i,i<len→∃ d,Q d∧d.cells.length=sz∧(∀ (j:Nat) y,d.cells[j]?=some y→y.pure1=true∧∃ v,w.cell? ((a.add (i*sz)).add j)=some v∧RepV w (ghost0 w) [] y v)∧wt d≤bs i) :
  ∃ els:List D,els.length=len∧(∀ x∈els,Q x)∧RepL w (D.slc (nz sz els) els false).cells [.slice (some a) len cap]∧∀ (i:Nat) x,els[i]?=some x→wt x≤bs i:=by
 let f:Nat→D:=fun i=>if hi:i<len then(hall i hi).choose else .junk
 have hf:∀ i (hi:i<len),f i=(hall i hi).choose:=fun i hi=>by simp[f,hi]
 have hget:∀ (i:Nat) x,((List.range len).map f)[i]?=some x→∃ hi:i<len,x=(hall i hi).choose:=by
  intro i x hx
  simp only[List.getElem?_map,Option.map_eq_some_iff]at hx
  obtain⟨i',h1,rfl⟩:=hx
  rw[List.getElem?_eq_some_iff]at h1
  obtain⟨h2,h3⟩:=h1
  simp at h2 h3
  subst h3
  exact⟨h2,hf i h2⟩
 refine⟨(List.range len).map f,by simp,fun x hx=>?_,?_,fun i x hx=>?_⟩
 ·obtain⟨i,hi⟩:=List.getElem?_of_mem hx
  obtain⟨hi',rfl⟩:=hget i x hi
  exact(hall i hi').choose_spec.1
 ·refine RepL.one (RepV.nz (t:=false) ?_) rfl
  rcases Nat.eq_zero_or_pos len with h0 | h0
  ·subst h0
   exact .slcE _ false (some a) cap (fun h=>by cases h)
  ·have hsp:a.spot=none:=by
    obtain⟨d1,d2,d3,_⟩:=(hall 0 h0).choose_spec
    obtain⟨_,v,h1,_⟩:=d3 0 _ (List.getElem?_eq_getElem (by rw[d2]; exact hpos))
    rw[Nat.zero_mul]at h1
    have h2:(a.add 0).add 0=a:=by simp[Addr.add]
    rw[h2]at h1
    unfold World.cell? at h1
    split at h1
    ·split at h1
     ·cases h1
     ·rename_i hs; simpa using hs
    ·cases h1
   obtain⟨b,off,spot⟩:=a
   simp only at hsp
   subst hsp
   have hl:len=((List.range len).map f).length:=by simp
   conv=>rhs; rw[hl]
   refine RepV.slc_mk hpos ?_ (by simpa using hlc) (fun h=>by cases h) ?_
   ·intro e' he'
    obtain⟨i,hi⟩:=List.getElem?_of_mem he'
    obtain⟨hi',rfl⟩:=hget i e' hi
    exact(hall i hi').choose_spec.2.1
   ·intro i j d hd
    obtain⟨e',he,hj⟩:=cellAt_some hd
    obtain⟨hi',rfl⟩:=hget i e' he
    obtain⟨hp,v,hv,hr⟩:=(hall i hi').choose_spec.2.2.1 j d hj
    rw[add_lit,add_lit]at hv
    refine⟨hp,?_,v,hv,hr⟩
    show(w.cell? ⟨b,off+i*sz+j,none⟩).isSome=true
    rw[hv]; rfl
 ·obtain⟨hi',rfl⟩:=hget i x hx
  exact(hall i hi').choose_spec.2.2.2
theorem clos_reads{sp:Nat→Bool}{S:List TypeId}(hS:closed P S=true):∀ (fuel:Nat) (t:TypeId),t∈S→ReadsD enc P w sp fuel t
 |0,t,_=>by intro cs x hx; simp[DataW.trod]at hx
 |fuel+1,t,ht=>by
  have ih:=fun t ht=>clos_reads (sp:=sp) hS fuel t ht
  have hc:closedIn P S t=true:=List.all_eq_true.1 hS t ht
  unfold closedIn at hc
  intro cs x hx
  split at hc
  ·rename_i hu
   simp only[beq_iff_eq]at hc
   unfold DataW.trod at hx
   rw[hu]at hx
   split at hx <;> simp_all
   exact⟨_,.bool t _ hu,RepL.one (.bool _) rfl,.inr rfl,by rw[← hx]; simp[wt,blk]⟩
  ·rename_i k hu
   simp only[beq_iff_eq]at hc
   unfold DataW.trod at hx
   rw[hu]at hx
   split at hx <;> simp_all
   rename_i k' m
   obtain⟨⟨rfl,hw⟩,hx2⟩:=hx
   exact⟨_,.int t _ _ hu hw,RepL.one (.int _ _) rfl,.inr rfl,by rw[← hx2]; simp[wt,blk]⟩
  ·rename_i hu
   simp only[beq_iff_eq]at hc
   unfold DataW.trod at hx
   rw[hu]at hx
   split at hx <;> simp_all
   rename_i s
   exact⟨_,.str t s.data.toList hu (by simpa using hx.1),RepL.one str_of rfl,.inr rfl,by rw[← hx.2]; simp[wt,blk]⟩
  ·rename_i e hu
   simp only[Bool.and_eq_true,List.contains_iff_mem,decide_eq_true_eq,beq_iff_eq]at hc
   obtain⟨⟨hin,hpos⟩,hone⟩:=hc
   rcases DataW.trod_slice hu hx with⟨rfl,hx2⟩ | ⟨a,len,cap,elems,rest,m,hm,rfl,hx2,_,hlc,hcm,hlen,hel,_,_⟩
   ·refine⟨.slc (nz (P.cellsOf e) []) [] false,.slc t e [] hu (fun x h=>by cases h) (Nat.zero_le _),RepL.one (.slcE _ false none 0 (fun h=>by cases h)) rfl,hone.symm,.inr rfl,by rw[hx2]; simp[wt,wts,blk]⟩
   ·obtain rfl:m=fuel:=by omega
    have hall:∀ i,i<len→∃ d,TyD P e d∧d.cells.length=P.cellsOf e∧(∀ (j:Nat) y,d.cells[j]?=some y→y.pure1=true∧∃ v,w.cell? ((a.add (i*P.cellsOf e)).add j)=some v∧RepV w (ghost0 w) [] y v)∧wt d≤((elems[i]?).map fun y=>blk y.1).getD 0:=by
     intro i hi
     have h1:=hel i hi
     rw[List.getElem?_eq_getElem (by omega)]at h1 ⊢
     simp only[Option.bind_eq_some_iff]at h1
     obtain⟨cs',h2,h3⟩:=h1
     obtain⟨d,d1,d2,d3,_,d5⟩:=ih e hin cs' _ h3
     obtain⟨h4,h5⟩:=cells?_get h2
     refine⟨d,d1,by rw[d2.1,h4],fun j y hy=>⟨d2.2.2 y (List.mem_of_getElem? hy),?_⟩,by simpa using d5⟩
     have hj:j<cs'.length:=by rw[← d2.1]; exact(List.getElem?_eq_some_iff.1 hy).1
     exact⟨cs'[j],h5 j _ (List.getElem?_eq_getElem hj),d2.2.1 j y _ hy (List.getElem?_eq_getElem hj)⟩
    obtain⟨els,e1,e2,e3,e4⟩:=slice_reads hpos hlc hall
    refine⟨_,.slc t e els hu e2 (by omega),e3,hone.symm,.inr rfl,?_⟩
    rw[hx2]
    simp only[wt,blk]
    refine Nat.succ_le_succ (wts_le _ _ (by simp; omega) ?_)
    intro i x y hx hy
    have h1:=e4 i x hx
    simp only[List.getElem?_map,Option.map_eq_some_iff]at hy
    obtain⟨z,hz,rfl⟩:=hy
    rw[hz]at h1
    simpa using h1
  ·rename_i fs hu
   simp only[Bool.and_eq_true,List.all_eq_true,List.contains_iff_mem]at hc
   obtain⟨hin,hoff⟩:=hc
   unfold DataW.trod at hx
   rw[hu]at hx
   simp only at hx
   split at hx
   case isFalse=>cases hx
   rename_i hl
   simp only[Option.map_eq_some_iff]at hx
   obtain⟨ys,hys,rfl⟩:=hx
   obtain⟨xs,x1,x2,x3,x4,x5⟩:=fieldsD_reads cs (P.cellsOf t) fs.toList 0 ys (fun f hf=>ih f.type (hin f hf)) hoff hys
   refine⟨.agg (xs.flatMap D.cells),.agg t fs xs hu x1 x2,?_,hl,.inl ⟨_,rfl⟩,by simpa only[wt,blk]using x5⟩
   rw[List.drop_zero,Nat.sub_zero,List.take_of_length_le (by omega)]at x3
   exact x3
  ·rename_i m e hu
   simp only[Bool.and_eq_true,List.contains_iff_mem,beq_iff_eq]at hc
   obtain⟨hin,hsz⟩:=hc
   unfold DataW.trod at hx
   rw[hu]at hx
   simp only at hx
   split at hx
   case isFalse=>cases hx
   rename_i hl
   simp only[Option.map_eq_some_iff]at hx
   obtain⟨ys,hys,rfl⟩:=hx
   rw[List.range_eq_range']at hys
   obtain⟨xs,x1,x2,x3,x5⟩:=itemsD_reads (ih e hin) cs m 0 ys hys
   refine⟨.agg (xs.flatMap D.cells),.arr t m e xs hu x1 x2,?_,hl,.inl ⟨_,rfl⟩,by simpa only[wt,blk]using x5⟩
   rw[Nat.zero_mul,List.drop_zero,List.take_of_length_le (by omega)]at x3
   exact x3
  ·cases hc
theorem ty_reads{sp:Nat→Bool}:∀ (n:Nat) (t:TypeId) (ty:Ty),tyOf P n t=some ty→Reads enc P w sp t ty
 |0,_,_,h=>by simp[tyOf]at h
 |n+1,t,ty,h=>by
  have ih:=ty_reads (sp:=sp) n
  intro fuel cs x hx
  unfold tyOf at h
  cases fuel with
  |zero=>simp[DataW.trod]at hx
  |succ fuel=>
  split at h
  ·rename_i hu
   simp only[Option.some.injEq]at h; subst h
   unfold DataW.trod at hx
   rw[hu]at hx
   split at hx <;> simp_all
   exact⟨_,.bool _,RepL.one (.bool _) rfl,rfl,rfl,by rw[← hx]; simp[wt,blk]⟩
  ·rename_i k hu
   simp only[Option.some.injEq]at h; subst h
   unfold DataW.trod at hx
   rw[hu]at hx
   split at hx <;> simp_all
   rename_i k' m
   obtain⟨⟨rfl,hw⟩,hx2⟩:=hx
   exact⟨_,.int _ _ hw,RepL.one (.int _ _) rfl,rfl,rfl,by rw[← hx2]; simp[wt,blk]⟩
  ·rename_i hu
   simp only[Option.some.injEq]at h; subst h
   unfold DataW.trod at hx
   rw[hu]at hx
   split at hx <;> simp_all
   rename_i s
   exact⟨_,.str s.data.toList (by simpa using hx.1),RepL.one str_of rfl,rfl,rfl,by rw[← hx.2]; simp[wt,blk]⟩
  ·rename_i e hu
   split at h
   case h_2=>
    split at h
    case isFalse=>cases h
    rename_i hcl
    simp only[Bool.and_eq_true,List.contains_iff_mem]at hcl
    simp only[Option.some.injEq]at h; subst h
    obtain⟨d,d1,d2,d3,d4,d5⟩:=clos_reads hcl.1 (fuel+1) t hcl.2 cs x hx
    have hone:P.cellsOf t=1:=by
     have:=List.all_eq_true.1 hcl.1 t hcl.2
     unfold closedIn at this
     rw[hu]at this
     simp only[Bool.and_eq_true,beq_iff_eq]at this
     exact this.2
    rw[hone]at d3
    have:∃ sz els,d=.slc (nz sz els) els false:=by
     cases d1 with
     |slc _ e' els h1 h2 h3=>exact⟨_,_,rfl⟩
     |agg _ fs xs h1=>rw[hu]at h1; cases h1
     |arr _ m e' xs h1=>rw[hu]at h1; cases h1
     |bool _ b h1=>rw[hu]at h1; cases h1
     |int _ k n h1=>rw[hu]at h1; cases h1
     |str _ s h1=>rw[hu]at h1; cases h1
    obtain⟨sz,els,rfl⟩:=this
    exact⟨_,.opq _ sz els d1,d2,d3,.inr rfl,d5⟩
   rename_i ex hex
   split at h
   case isFalse=>cases h
   rename_i hc
   simp only[Bool.and_eq_true,beq_iff_eq,decide_eq_true_eq]at hc
   simp only[Option.some.injEq]at h; subst h
   rcases DataW.trod_slice hu hx with⟨rfl,hx2⟩ | ⟨a,len,cap,elems,rest,m,_,rfl,hx2,_,hlc,hcm,hlen,hel,_,_⟩
   ·exact⟨_,.slc ex [] (fun i x h=>by simp at h) (Nat.zero_le _),RepL.one (.slcE _ false none 0 (fun h=>by cases h)) rfl,rfl,.inr rfl,by rw[hx2]; simp[wt,wts,blk]⟩
   ·have hall:∀ i (hi:i<len),∃ d,Has ex d∧d.cells.length=ex.size∧(∀ (j:Nat) y,d.cells[j]?=some y→y.pure1=true∧∃ v,w.cell? ((a.add (i*ex.size)).add j)=some v∧RepV w (ghost0 w) [] y v)∧wt d≤blk (elems[i]'(by omega)).1:=by
     intro i hi
     have h1:=hel i hi
     rw[hc.1,List.getElem?_eq_getElem (by omega)]at h1
     simp only[Option.bind_eq_some_iff]at h1
     obtain⟨cs',h2,h3⟩:=h1
     obtain⟨d,d1,d2,d3,_,d5⟩:=ih e ex hex m cs' _ h3
     obtain⟨h4,h5⟩:=cells?_get h2
     refine⟨d,d1,by rw[d2.1,h4],fun j y hy=>⟨d2.2.2 y (List.mem_of_getElem? hy),?_⟩,d5⟩
     have hj:j<cs'.length:=by rw[← d2.1]; exact(List.getElem?_eq_some_iff.1 hy).1
     exact⟨cs'[j],h5 j _ (List.getElem?_eq_getElem hj),d2.2.1 j y _ hy (List.getElem?_eq_getElem hj)⟩
    let f:Nat→D:=fun i=>if hi:i<len then(hall i hi).choose else .junk
    have hf:∀ i (hi:i<len),f i=(hall i hi).choose:=fun i hi=>by simp[f,hi]
    have hget:∀ (i:Nat) x,((List.range len).map f)[i]?=some x→∃ hi:i<len,x=(hall i hi).choose:=by
     intro i x hx
     simp only[List.getElem?_map,Option.map_eq_some_iff]at hx
     obtain⟨i',h1,rfl⟩:=hx
     rw[List.getElem?_eq_some_iff]at h1
     obtain⟨h2,h3⟩:=h1
     simp at h2 h3
     subst h3
     exact⟨h2,hf i h2⟩
    refine⟨.slc (nz ex.size ((List.range len).map f)) ((List.range len).map f) false,.slc ex _ (fun i x hx=>?_) (by simp; omega),?_,rfl,.inr rfl,?_⟩
    ·obtain⟨hi,rfl⟩:=hget i x hx
     exact(hall i hi).choose_spec.1
    ·refine RepL.one (RepV.nz (t:=false) ?_) rfl
     rcases Nat.eq_zero_or_pos len with h0 | h0
     ·subst h0
      exact .slcE _ false (some a) cap (fun h=>by cases h)
     ·have hsp:a.spot=none:=by
       obtain⟨d1,d2,d3,_⟩:=(hall 0 h0).choose_spec
       obtain⟨_,v,h1,_⟩:=d3 0 _ (List.getElem?_eq_getElem (by rw[d2]; exact hc.2))
       rw[Nat.zero_mul]at h1
       have h2:(a.add 0).add 0=a:=by simp[Addr.add]
       rw[h2]at h1
       unfold World.cell? at h1
       split at h1
       ·split at h1
        ·cases h1
        ·rename_i hs; simpa using hs
       ·cases h1
      obtain⟨b,off,spot⟩:=a
      simp only at hsp
      subst hsp
      have hl:len=((List.range len).map f).length:=by simp
      conv=>rhs; rw[hl]
      refine RepV.slc_mk hc.2 ?_ (by simpa using hlc) (fun h=>by cases h) ?_
      ·intro e' he'
       obtain⟨i,hi⟩:=List.getElem?_of_mem he'
       obtain⟨hi',rfl⟩:=hget i e' hi
       exact(hall i hi').choose_spec.2.1
      ·intro i j d hd
       obtain⟨e',he,hj⟩:=cellAt_some hd
       obtain⟨hi',rfl⟩:=hget i e' he
       obtain⟨hp,v,hv,hr⟩:=(hall i hi').choose_spec.2.2.1 j d hj
       rw[add_lit,add_lit]at hv
       refine⟨hp,?_,v,hv,hr⟩
       show(w.cell? ⟨b,off+i*ex.size+j,none⟩).isSome=true
       rw[hv]; rfl
    ·rw[hx2]
     simp only[wt,blk]
     refine Nat.succ_le_succ (wts_le _ _ (by simp; omega) ?_)
     intro i x y hx hy
     obtain⟨hi,rfl⟩:=hget i x hx
     simp only[List.getElem?_map,Option.map_eq_some_iff]at hy
     obtain⟨z,hz,rfl⟩:=hy
     obtain⟨hz1,rfl⟩:=List.getElem?_eq_some_iff.1 hz
     exact(hall i hi).choose_spec.2.2.2
  ·rename_i fs hu
   split at h
   case h_2=>cases h
   rename_i ts hts
   split at h
   case isFalse=>cases h
   rename_i hc
   simp only[Bool.and_eq_true,beq_iff_eq]at hc
   simp only[Option.some.injEq]at h; subst h
   unfold DataW.trod at hx
   rw[hu]at hx
   simp only at hx
   split at hx
   case isFalse=>cases hx
   rename_i hl
   simp only[Option.map_eq_some_iff]at hx
   obtain⟨ys,hys,rfl⟩:=hx
   obtain⟨xs,x1,x2,x3,x4,x5⟩:=fields_reads ih fuel cs fs.toList ts 0 ys hts hc.1 hys
   refine⟨.agg (xs.flatMap D.cells),.agg ts xs x1 x2,?_,by rw[hl,hc.2]; rfl,.inl ⟨ts,rfl⟩,by simpa only[wt,blk]using x5⟩
   rw[List.drop_zero,List.take_of_length_le (by omega)]at x3
   exact x3
  ·rename_i m e hu
   split at h
   case h_2=>cases h
   rename_i ex hex
   split at h
   case isFalse=>cases h
   rename_i hc
   simp only[Bool.and_eq_true,beq_iff_eq]at hc
   simp only[Option.some.injEq]at h; subst h
   unfold DataW.trod at hx
   rw[hu]at hx
   simp only at hx
   split at hx
   case isFalse=>cases hx
   rename_i hl
   simp only[Option.map_eq_some_iff]at hx
   obtain⟨ys,hys,rfl⟩:=hx
   rw[List.range_eq_range']at hys
   obtain⟨xs,x1,x2,x3,x5⟩:=items_reads (ih e ex hex) hc.1 fuel cs m 0 ys hys
   refine⟨.agg (xs.flatMap D.cells),.agg _ xs (by simp[x1]) ?_,?_,by rw[hl,hc.2]; exact(Ty.sizes_replicate ex m).symm,.inl ⟨_,rfl⟩,by simpa only[wt,blk]using x5⟩
   ·intro i f x hf hx
    rw[List.getElem?_replicate]at hf
    split at hf
    ·cases hf; exact x2 i x hx
    ·cases hf
   ·rw[Nat.zero_mul,List.drop_zero,List.take_of_length_le (by omega)]at x3
    exact x3
  ·cases h
end
end Go.Proofs.YtfbbaceiimdejaaGreatDoor.PI
namespace Go.Proofs.YtfbbaceiimdejaaGreatDoor.PI
open Go Go.RowKit Go.ChangeShapes
section
variable {H:Type} {enc:TypeId×Value→H} {P:Program} {W W':World}
theorem mapM_same{α β:Type}{f g:α→Option β}:∀ {l:List α} {r:List β},l.mapM f=some r→(∀ x y,x∈l→y∈r→f x=some y→g x=some y)→l.mapM g=some r
 |[],r,h,_=>by simpa using h
 |a::l,r,h,hg=>by
  simp only[List.mapM_cons,Option.bind_eq_bind,Option.bind_eq_some_iff,Option.pure_def,Option.some.injEq]at h ⊢
  obtain⟨b,hb,r',hr',rfl⟩:=h
  exact⟨b,hg a b (by simp) (by simp) hb,r',mapM_same hr' (fun x y hx hy=>hg x y (by simp[hx]) (by simp[hy])),rfl⟩
theorem cell?_below(hb:Below W.heap.size W W'){a:Addr}{v:Value}(h:W.cell? a=some v):W'.cell? a=some v:=by
 have hlt:=World.block_lt_of_cell? W a h
 rw[← h]
 simp only[World.cell?,hb.block a.block hlt]
theorem cells?_below(hb:Below W.heap.size W W'){b:Nat}{a:Addr}{n:Nat}{cs:List Value}(h:W.cells? b a n=some cs):W'.cells? b a n=some cs:=by
 unfold World.cells? at h ⊢
 split at h
 ·rename_i h0
  rw[if_pos h0]
  exact mapM_same h fun x y _ _ hx=>cell?_below hb hx
 ·cases h
theorem clos_below(hb:Below W.heap.size W W'){S:List TypeId}(hS:closed P S=true):∀ (fuel:Nat) (t:TypeId),t∈S→∀ (cs:List Value) (x:DataW H×List MemPlace),DataW.trod enc P W 0 (fun _=>true) true fuel t cs=some x→
  ∀ sp':Nat→Bool,(∀ p∈x.2,sp' p.block=true)→DataW.trod enc P W' 0 sp' true fuel t cs=some x
 |0,t,_=>by intro cs x hx; simp[DataW.trod]at hx
 |fuel+1,t,ht=>by
  have ih:=clos_below hb hS fuel
  intro cs x hx sp' hsp
  have hc:closedIn P S t=true:=List.all_eq_true.1 hS t ht
  unfold closedIn at hc
  split at hc
  ·rename_i hu
   unfold DataW.trod at hx ⊢
   rw[hu]at hx ⊢
   split at hx <;> simp_all
  ·rename_i k hu
   unfold DataW.trod at hx ⊢
   rw[hu]at hx ⊢
   split at hx <;> simp_all
  ·rename_i hu
   unfold DataW.trod at hx ⊢
   rw[hu]at hx ⊢
   split at hx <;> simp_all
  ·rename_i e hu
   simp only[Bool.and_eq_true,List.contains_iff_mem,decide_eq_true_eq,beq_iff_eq]at hc
   obtain⟨⟨hin,hpos⟩,_⟩:=hc
   have hone:∀ (b:Addr) (y:DataW H×List MemPlace),(∀ p∈y.2,sp' p.block=true)→(W.cells? 0 b (P.cellsOf e)).bind (DataW.trod enc P W 0 (fun _=>true) true fuel e)=some y→(W'.cells? 0 b (P.cellsOf e)).bind (DataW.trod enc P W' 0 sp' true fuel e)=some y:=by
    intro b y hy h1
    simp only[Option.bind_eq_some_iff]at h1 ⊢
    obtain⟨cs',h2,h3⟩:=h1
    exact⟨cs',cells?_below hb h2,ih e hin cs' y h3 sp' hy⟩
   unfold DataW.trod at hx ⊢
   rw[hu]at hx ⊢
   split at hx
   all_goals try (first | (rename_i heq _; cases heq; done) | (rename_i heq; cases heq; done))
   all_goals try (simp_all; done)
   rename_i e' a len cap heq
   cases heq
   simp only[if_true]at hx ⊢
   split at hx
   case isFalse=>cases hx
   rename_i hbase
   rw[if_pos hbase]
   simp only[Option.bind_eq_some_iff,Option.map_eq_some_iff]at hx ⊢
   obtain⟨elems,h1,rest,h2,rfl⟩:=hx
   have hle:elems.length=len:=by simpa using Lib.mapM_length h1
   have hlr:rest.length=cap - len:=by simpa using Lib.mapM_length h2
   have hin:∀ y∈elems++rest,∀ p∈y.2,sp' p.block=true:=fun y hy p hp=>hsp p (by
    simp only[List.mem_append,List.mem_flatMap]
    refine .inr ⟨y,?_,hp⟩
    simpa using hy)
   refine⟨elems,mapM_same h1 (fun i y _ hy hi=>hone _ y (hin y (by simp[hy])) hi),rest,?_,rfl⟩
   rcases Nat.eq_zero_or_pos cap with h0 | h0
   ·have:cap - len=0:=by omega
    have hr0:rest=[]:=List.eq_nil_of_length_eq_zero (by omega)
    rw[this,hr0]
    split <;> rfl
   ·have hblk:sp' a.block=true:=hsp (.cell a.block (a.off+0)) (by
     simp only[List.mem_append]
     left
     simp only[MemPlace.row,List.mem_map,List.mem_range]
     refine⟨0,?_,rfl⟩
     have:elems.length+rest.length=cap:=by omega
     rw[this]
     exact Nat.mul_pos h0 hpos)
    rw[if_pos hblk]
    exact mapM_same h2 (fun i y _ hy hi=>hone _ y (hin y (by simp[hy])) hi)
  ·rename_i fs hu
   simp only[Bool.and_eq_true,List.all_eq_true,List.contains_iff_mem]at hc
   unfold DataW.trod at hx ⊢
   rw[hu]at hx ⊢
   simp only at hx ⊢
   split at hx
   case isFalse=>cases hx
   rename_i hl
   rw[if_pos hl]
   simp only[Option.map_eq_some_iff]at hx ⊢
   obtain⟨ys,hys,rfl⟩:=hx
   refine⟨ys,mapM_same hys (fun f y hf hy hi=>?_),rfl⟩
   exact ih f.type (hc.1 f hf) _ y hi sp' fun p hp=>hsp p (by simp only[List.mem_flatMap]; exact⟨y,hy,hp⟩)
  ·rename_i m e hu
   simp only[Bool.and_eq_true,List.contains_iff_mem,beq_iff_eq]at hc
   unfold DataW.trod at hx ⊢
   rw[hu]at hx ⊢
   simp only at hx ⊢
   split at hx
   case isFalse=>cases hx
   rename_i hl
   rw[if_pos hl]
   simp only[Option.map_eq_some_iff]at hx ⊢
   obtain⟨ys,hys,rfl⟩:=hx
   refine⟨ys,mapM_same hys (fun i y _ hy hi=>?_),rfl⟩
   exact ih e hc.1 _ y hi sp' fun p hp=>hsp p (by simp only[List.mem_flatMap]; exact⟨y,hy,hp⟩)
  ·cases hc
theorem trod_below(hb:Below W.heap.size W W'):∀ (n:Nat) (t:TypeId) (ty:Ty),tyOf P n t=some ty→∀ (fuel:Nat) (cs:List Value) (x:DataW H×List MemPlace),DataW.trod enc P W 0 (fun _=>true) true fuel t cs=some x→
  ∀ sp':Nat→Bool,(∀ p∈x.2,sp' p.block=true)→DataW.trod enc P W' 0 sp' true fuel t cs=some x
 |0,_,_,h=>by simp[tyOf]at h
 |n+1,t,ty,h=>by
  have ih:=trod_below hb n
  intro fuel cs x hx sp' hsp
  unfold tyOf at h
  cases fuel with
  |zero=>simp[DataW.trod]at hx
  |succ fuel=>
  split at h
  ·rename_i hu
   unfold DataW.trod at hx ⊢
   rw[hu]at hx ⊢
   split at hx <;> simp_all
  ·rename_i k hu
   unfold DataW.trod at hx ⊢
   rw[hu]at hx ⊢
   split at hx <;> simp_all
  ·rename_i hu
   unfold DataW.trod at hx ⊢
   rw[hu]at hx ⊢
   split at hx <;> simp_all
  ·rename_i e hu
   split at h
   case h_2=>
    split at h
    case isFalse=>cases h
    rename_i hcl
    simp only[Bool.and_eq_true,List.contains_iff_mem]at hcl
    exact clos_below hb hcl.1 (fuel+1) t hcl.2 cs x hx sp' hsp
   rename_i ex hex
   split at h
   case isFalse=>cases h
   rename_i hc
   simp only[Bool.and_eq_true,beq_iff_eq,decide_eq_true_eq]at hc
   have hpos:0<P.cellsOf e:=by rw[hc.1]; exact hc.2
   have hone:∀ (b:Addr) (y:DataW H×List MemPlace),(∀ p∈y.2,sp' p.block=true)→(W.cells? 0 b (P.cellsOf e)).bind (DataW.trod enc P W 0 (fun _=>true) true fuel e)=some y→(W'.cells? 0 b (P.cellsOf e)).bind (DataW.trod enc P W' 0 sp' true fuel e)=some y:=by
    intro b y hy h1
    simp only[Option.bind_eq_some_iff]at h1 ⊢
    obtain⟨cs',h2,h3⟩:=h1
    exact⟨cs',cells?_below hb h2,ih e ex hex fuel cs' y h3 sp' hy⟩
   unfold DataW.trod at hx ⊢
   rw[hu]at hx ⊢
   split at hx
   all_goals try (first | (rename_i heq _; cases heq; done) | (rename_i heq; cases heq; done))
   all_goals try (simp_all; done)
   rename_i e' a len cap heq
   cases heq
   simp only[if_true]at hx ⊢
   split at hx
   case isFalse=>cases hx
   rename_i hbase
   rw[if_pos hbase]
   simp only[Option.bind_eq_some_iff,Option.map_eq_some_iff]at hx ⊢
   obtain⟨elems,h1,rest,h2,rfl⟩:=hx
   have hle:elems.length=len:=by simpa using Lib.mapM_length h1
   have hlr:rest.length=cap - len:=by simpa using Lib.mapM_length h2
   have hin:∀ y∈elems++rest,∀ p∈y.2,sp' p.block=true:=fun y hy p hp=>hsp p (by
    simp only[List.mem_append,List.mem_flatMap]
    refine .inr ⟨y,?_,hp⟩
    simpa using hy)
   refine⟨elems,mapM_same h1 (fun i y _ hy hi=>hone _ y (hin y (by simp[hy])) hi),rest,?_,rfl⟩
   rcases Nat.eq_zero_or_pos cap with h0 | h0
   ·have:cap - len=0:=by omega
    have hr0:rest=[]:=List.eq_nil_of_length_eq_zero (by omega)
    rw[this,hr0]
    split <;> rfl
   ·have hblk:sp' a.block=true:=hsp (.cell a.block (a.off+0)) (by
     simp only[List.mem_append]
     left
     simp only[MemPlace.row,List.mem_map,List.mem_range]
     refine⟨0,?_,rfl⟩
     have:elems.length+rest.length=cap:=by omega
     rw[this]
     exact Nat.mul_pos h0 hpos)
    rw[if_pos hblk]
    exact mapM_same h2 (fun i y _ hy hi=>hone _ y (hin y (by simp[hy])) hi)
  ·rename_i fs hu
   split at h
   case h_2=>cases h
   rename_i ts hts
   unfold DataW.trod at hx ⊢
   rw[hu]at hx ⊢
   simp only at hx ⊢
   split at hx
   case isFalse=>cases hx
   rename_i hl
   rw[if_pos hl]
   simp only[Option.map_eq_some_iff]at hx ⊢
   obtain⟨ys,hys,rfl⟩:=hx
   have hall:∀ f∈fs.toList,∃ ty,tyOf P n f.type=some ty:=by
    clear hys hl hu h
    generalize fs.toList=l at hts
    induction l generalizing ts with
    |nil=>intro f hf; cases hf
    |cons f0 l ihl=>
     unfold tysOf at hts
     split at hts
     ·rename_i t0 ts0 h0 h1
      intro f hf
      rcases List.mem_cons.1 hf with rfl | hf
      ·exact⟨_,h0⟩
      ·exact ihl _ h1 f hf
     ·cases hts
   refine⟨ys,mapM_same hys (fun f y hf hy hi=>?_),rfl⟩
   obtain⟨ty',hty⟩:=hall f hf
   exact ih f.type ty' hty fuel _ y hi sp' fun p hp=>hsp p (by simp only[List.mem_flatMap]; exact⟨y,hy,hp⟩)
  ·rename_i m e hu
   split at h
   case h_2=>cases h
   rename_i ex hex
   unfold DataW.trod at hx ⊢
   rw[hu]at hx ⊢
   simp only at hx ⊢
   split at hx
   case isFalse=>cases hx
   rename_i hl
   rw[if_pos hl]
   simp only[Option.map_eq_some_iff]at hx ⊢
   obtain⟨ys,hys,rfl⟩:=hx
   refine⟨ys,mapM_same hys (fun i y _ hy hi=>?_),rfl⟩
   exact ih e ex hex fuel _ y hi sp' fun p hp=>hsp p (by simp only[List.mem_flatMap]; exact⟨y,hy,hp⟩)
  ·cases h
theorem trodAll_below(hb:Below W.heap.size W W'){n:Nat}:∀ (ts:List TypeId) (tys:List Ty) (vs:List Value) (ds:List (DataW H)) (ps:List MemPlace),ts.mapM (tyOf P n)=some tys→DataW.TrodAll enc P W 0 (fun _=>true) true ts vs ds ps→
  ∀ sp':Nat→Bool,(∀ p∈ps,sp' p.block=true)→DataW.TrodAll enc P W' 0 sp' true ts vs ds ps
 |[],_,[],[],ps,_,h=>fun _ _=>h
 |t::ts,tys,v::vs,d::ds,ps,ht,h=>by
  intro sp' hsp
  simp only[List.mapM_cons,Option.bind_eq_bind,Option.bind_eq_some_iff,Option.pure_def,Option.some.injEq]at ht
  obtain⟨ty,h1,tys',h2,rfl⟩:=ht
  obtain⟨p,q,⟨fuel,h3⟩,h4,rfl⟩:=h
  exact⟨p,q,⟨fuel,trod_below hb n t ty h1 fuel _ _ h3 sp' (fun x hx=>hsp x (by simp[hx]))⟩,trodAll_below hb ts tys' vs ds q h2 h4 sp' (fun x hx=>hsp x (by simp[hx])),rfl⟩
 |[],_,_::_,_,_,_,h=>by cases h
 |[],_,[],_::_,_,_,h=>by cases h
 |_::_,_,[],_,_,_,h=>by cases h
 |_::_,_,_::_,[],_,_,h=>by cases h
theorem val_reads{sp:Nat→Bool}{n:Nat}{t:TypeId}{ty:Ty}{v:Value}{d:DataW H}{ps:List MemPlace}(ht:tyOf P n t=some ty)(hv:Value.okWide P W .any 0 t v)(h:DataW.Trod enc P W 0 sp true t v d ps) :
  ∃ x,Has ty x∧(RepV W (ghost0 W) [] x v∧purA x=true)∧wt x≤blk d:=by
 obtain⟨fuel,h⟩:=h
 obtain⟨x,h1,h2,h3,h4,h5⟩:=ty_reads n t ty ht fuel _ _ h
 refine⟨x,h1,?_,h5⟩
 have hcell:(∀ cs,v≠.agg cs)→x.pure1=true→RepV W (ghost0 W) [] x v∧purA x=true:=by
  intro hna hp
  have hvc:v.cells=#[v]:=by cases v <;> first | rfl | exact absurd rfl (hna _)
  rw[pure1_cells hp,hvc]at h2
  refine⟨h2.2.1 0 x v rfl rfl,?_⟩
  cases x <;> first | exact hp | (simp[D.pure1]at hp; done)
 have hagg:∀ cs l,v=.agg cs→x=.agg l→RepV W (ghost0 W) [] x v∧purA x=true:=by
  intro cs l e1 e2
  subst e1; subst e2
  refine⟨?_,?_⟩
  ·have:=RepV.agg (w:=W) (g:=ghost0 W) (st:=[]) l cs.toList (by simpa[D.cells,Value.cells]using h2.1) (fun i d u hd hu=>h2.2.1 i d u hd (by simpa[Value.cells]using hu))
   rwa [Array.toArray_toList]at this
  ·simp only[purA,List.all_eq_true]
   exact h2.2.2
 unfold Value.okWide at hv
 cases n with
 |zero=>simp[tyOf]at ht
 |succ n=>
 unfold tyOf at ht
 split at ht
 ·rename_i hu
  simp only[Option.some.injEq]at ht; subst ht
  cases h1
  exact hcell (fun cs e=>by subst e; simp[hu,Cell.okWide,Cell.ok]at hv) rfl
 ·rename_i k hu
  simp only[Option.some.injEq]at ht; subst ht
  cases h1
  exact hcell (fun cs e=>by subst e; simp[hu,Cell.okWide,Cell.ok]at hv) rfl
 ·rename_i hu
  simp only[Option.some.injEq]at ht; subst ht
  cases h1
  exact hcell (fun cs e=>by subst e; simp[hu,Cell.okWide,Cell.ok]at hv) rfl
 ·rename_i e hu
  split at ht
  case h_2=>
   split at ht
   case isFalse=>cases ht
   simp only[Option.some.injEq]at ht; subst ht
   cases h1
   exact hcell (fun cs e=>by subst e; simp[hu,Cell.okWide,Cell.ok]at hv) rfl
  split at ht
  case isFalse=>cases ht
  simp only[Option.some.injEq]at ht; subst ht
  cases h1
  exact hcell (fun cs e=>by subst e; simp[hu,Cell.okWide,Cell.ok]at hv) rfl
 ·rename_i fs hu
  split at ht
  case h_2=>cases ht
  split at ht
  case isFalse=>cases ht
  simp only[Option.some.injEq]at ht; subst ht
  simp only[hu]at hv
  obtain⟨cs,rfl,_,_⟩:=hv
  cases h1 with
  |agg _ xs _ _=>exact hagg cs _ rfl rfl
 ·rename_i m e hu
  split at ht
  case h_2=>cases ht
  split at ht
  case isFalse=>cases ht
  simp only[Option.some.injEq]at ht; subst ht
  simp only[hu]at hv
  obtain⟨cs,rfl,_,_⟩:=hv
  cases h1 with
  |agg _ xs _ _=>exact hagg cs _ rfl rfl
 ·cases ht
inductive HasAll:List Ty→List D→Prop
 |nil:HasAll [] []
 |cons {t:Ty} {ts:List Ty} {x:D} {xs:List D}:Has t x→HasAll ts xs→HasAll (t::ts) (x::xs)
theorem vals_read{sp:Nat→Bool}{n:Nat}:∀ (ts:List TypeId) (tys:List Ty) (vs:List Value) (ds:List (DataW H)) (ps:List MemPlace),ts.mapM (tyOf P n)=some tys→(∀ (j:Nat) t v,ts[j]?=some t→vs[j]?=some v→Value.okWide P W .any 0 t v)→DataW.TrodAll enc P W 0 sp true ts vs ds ps→
  ∃ xs,HasAll tys xs∧xs.length=vs.length∧(∀ (i:Nat) d v,xs[i]?=some d→vs[i]?=some v→RepV W (ghost0 W) [] d v)∧(∀ d∈xs,purA d=true)∧wts xs≤blks ds
 |[],tys,[],[],ps,ht,_,_=>by
  simp at ht; subst ht
  exact⟨[],.nil,rfl,fun i d v h=>by simp at h,(fun d h=>by cases h),by simp[wts]⟩
 |t::ts,tys,v::vs,d::ds,ps,ht,hv,h=>by
  simp only[List.mapM_cons,Option.bind_eq_bind,Option.bind_eq_some_iff,Option.pure_def,Option.some.injEq]at ht
  obtain⟨ty,h1,tys',h2,rfl⟩:=ht
  obtain⟨p,q,h3,h4,rfl⟩:=h
  obtain⟨x,x1,⟨x2,x3⟩,x5⟩:=val_reads h1 (hv 0 t v rfl rfl) h3
  obtain⟨xs,y1,y2,y3,y4,y5⟩:=vals_read ts tys' vs ds q h2 (fun j t v ht hv'=>hv (j+1) t v (by simpa using ht) (by simpa using hv')) h4
  refine⟨x::xs,.cons x1 y1,by simp[y2],?_,?_,?_⟩
  ·intro i d v hd hv'
   cases i with
   |zero=>simp at hd hv'; subst hd; subst hv'; exact x2
   |succ i=>simp at hd hv'; exact y3 i d v hd hv'
  ·intro d hd
   rcases List.mem_cons.1 hd with rfl | hd
   ·exact x3
   ·exact y4 d hd
  ·simp only[wts,blks]; omega
 |[],_,_::_,_,_,_,_,h=>by cases h
 |[],_,[],_::_,_,_,_,h=>by cases h
 |_::_,_,[],_,_,_,_,h=>by cases h
 |_::_,_,_::_,[],_,_,_,h=>by cases h
theorem law_contractU{G:Glob}{K n N:Nat}{fn:Func}{sp:List D→Option D}{tys:List Ty}{s:ChangeSpec}(hC:Contract P G K sp)(hty:fn.params.toList.mapM (tyOf P n)=some tys)(hvars:s.vars=[])
  (hrt:∃ tb,fn.resultTypes=#[tb]∧P.underlying tb=some .bool)
  (hfn:∀ (H:Type) (ds:List (DataW H)),ds.length=fn.params.size→(s.fn H ds).results=[.lit (.bool true)]∧(s.fn H ds).args=ds∧(s.fn H ds).vars=[])
  (hsp:∀ xs,HasAll tys xs→wts xs≤N→sp xs=some (.bool true))
  {args:Array Value} {ds gs:List (DataW H)} {before:List MemPlace} (hG:GlobOK G W (ghost0 W)) (hN:blks ds≤N)
  (hval:∀ (j:Nat) t v,fn.params[j]?=some t→args[j]?=some v→Value.okWide P W .any 0 t v)
  (hW:DataW.Whole enc P fn.params.toList s.vars false W args.toList ds gs before) :
  Calls P K args W fun e W'=>∃ v,e=.returned v∧s.post enc P fn false true false false W args v W':=by
 obtain⟨tb,hrt,hub⟩:=hrt
 have hW':=hW
 obtain⟨p,q,hA,hV,rfl,hfz,hnd⟩:=hW
 rw[hvars]at hV
 have hV':gs=[]∧q=[]:=by
  cases gs with
  |nil=>exact⟨rfl,hV⟩
  |cons a l=>cases hV
 obtain⟨rfl,rfl⟩:=hV'
 obtain⟨xs,x1,x2,x3,x4,x5⟩:=vals_read fn.params.toList tys args.toList ds p hty (fun j t v ht hv=>hval j t v (by simpa using ht) (by simpa using hv)) hA
 have hlen:∀ (ts:List TypeId) (vs:List Value) (ds:List (DataW H)) (ps:List MemPlace),DataW.TrodAll enc P W 0 (fun _=>true) true ts vs ds ps→ds.length=ts.length:=by
  intro ts
  induction ts with
  |nil=>intro vs ds ps h; cases vs <;> cases ds <;> first | rfl | cases h
  |cons t ts ih=>
   intro vs ds ps h
   cases vs with
   |nil=>cases h
   |cons v vs=>
    cases ds with
    |nil=>cases h
    |cons d ds=>
     obtain⟨_,_,_,h4,_⟩:=h
     simp[ih vs ds _ h4]
 have hdl:ds.length=fn.params.size:=by simpa using hlen _ _ _ _ hA
 have hc:=hC W (ghost0 W) xs args.toList (.bool true) (hsp xs x1 (Nat.le_trans x5 hN)) hG (fun b o h=>h) x2 x3 x4
 rw[Array.toArray_toList]at hc
 refine hc.mono ?_
 rintro e W' ⟨v,g',rfl,h1,_,_,_,_,hb⟩
 have hv:=bool_inv h1
 subst hv
 obtain⟨f1,f2,f3⟩:=hfn H ds hdl
 refine⟨_,rfl,ds,[],p++[],[],p,[],hW',?_,?_,?_,?_,fun h=>by cases h⟩
 ·rw[List.append_nil,f1,hrt]
  exact⟨[],[],⟨1,by unfold DataW.trod; simp[hub,Value.cells]⟩,rfl,rfl⟩
 ·rw[List.append_nil,f2]
  refine trodAll_below hb _ tys _ _ _ hty hA _ fun x hx=>?_
  simpa using hW'.lt x (by simpa using hx)
 ·rw[List.append_nil,f3,hvars]
  rfl
 ·refine⟨hb.os,hb.output,fun i hi=>?_⟩
  rw[hb.block i hi]
  cases W.heap[i]? with
  |none=>rfl
  |some o=>cases o <;> simp
theorem law_contract{G:Glob}{K n:Nat}{fn:Func}{sp:List D→Option D}{tys:List Ty}{s:ChangeSpec}(hC:Contract P G K sp)(hty:fn.params.toList.mapM (tyOf P n)=some tys)(hvars:s.vars=[])
  (hrt:∃ tb,fn.resultTypes=#[tb]∧P.underlying tb=some .bool)
  (hfn:∀ (H:Type) (ds:List (DataW H)),ds.length=fn.params.size→(s.fn H ds).results=[.lit (.bool true)]∧(s.fn H ds).args=ds∧(s.fn H ds).vars=[])
  (hsp:∀ xs,HasAll tys xs→sp xs=some (.bool true))
  {args:Array Value} {ds gs:List (DataW H)} {before:List MemPlace} (hG:GlobOK G W (ghost0 W))
  (hval:∀ (j:Nat) t v,fn.params[j]?=some t→args[j]?=some v→Value.okWide P W .any 0 t v)
  (hW:DataW.Whole enc P fn.params.toList s.vars false W args.toList ds gs before) :
  Calls P K args W fun e W'=>∃ v,e=.returned v∧s.post enc P fn false true false false W args v W':=
 law_contractU (N:=blks ds) hC hty hvars hrt hfn (fun xs h _=>hsp xs h) hG (Nat.le_refl _) hval hW
def tabG(g:Nat)(k:IntKind)(zs:List Int):Glob:=fun n=>if n=g then some (.agg (zs.map fun z=>.int k z))else none
theorem globTab{name:String}{k:IntKind}{zs:List Int}{g:Nat}(h:Lib.TabIs P W name k zs)(hg:P.globalNamed name=some g):GlobOK (tabG g k zs) W (ghost0 W):=by
 intro n d hd
 simp only[tabG,Option.ite_none_right_eq_some,Option.some.injEq]at hd
 obtain⟨rfl,rfl⟩:=hd
 have hj:∀ (j:Nat) (d:D),(D.agg (zs.map fun z=>D.int k z)).cells[j]?=some d→d=.int k (zs.getD j 0)∧W.cell? ⟨n,j,none⟩=some (.int k (zs.getD j 0)):=by
  intro j d hd
  simp only[D.cells,List.getElem?_map,Option.map_eq_some_iff]at hd
  obtain⟨z,hz,rfl⟩:=hd
  have hlt:j<zs.length:=(List.getElem?_eq_some_iff.1 hz).1
  exact⟨by simp[List.getD_eq_getElem?_getD,hz],h.cell hg j hlt⟩
 refine .eptr _ 0 n 0 (fun j=>.int k (zs.getD j 0)) (fun j d hd=>?_) (fun j d hd=>?_) (fun j d hd=>?_)
 ·rw[(hj j d hd).1]; rfl
 ·have:=(hj j d hd).2
  rw[Nat.zero_add]
  exact⟨by show(W.cell? ⟨n,j,none⟩).isSome=true; rw[this]; rfl,this⟩
 ·rw[(hj j d hd).1]; exact .int _ _
end
end Go.Proofs.YtfbbaceiimdejaaGreatDoor.PI
namespace Go.Proofs.YtfbbaceiimdejaaGreatDoor.PI
open Go
def wD(x:UInt32):D:=.int .u32 (x.toNat:Int)
theorem wrap_u64(n:Nat):IntKind.wrap .u64 (n:Int)=((n % 2 ^ 64:Nat):Int):=by
 simp[IntKind.wrap,IntKind.signed,IntKind.bits]
theorem wrap_i64{n:Int}(h1:-9223372036854775808≤n)(h2:n<9223372036854775808):IntKind.wrap .i64 n=n:=by
 show(if(true && decide (n % (2 ^ 64:Int) ≥ (2 ^ (64 - 1):Int)))=true then n % (2 ^ 64:Int) - (2 ^ 64:Int)else n % (2 ^ 64:Int))=n
 by_cases h:n % (2 ^ 64:Int) ≥ (2 ^ (64 - 1):Int)
 ·rw[if_pos (by simpa using h)]; omega
 ·rw[if_neg (by simpa using h)]; omega
theorem add_i{a b:Int}(h1:-9223372036854775808≤a+b)(h2:a+b<9223372036854775808):pbin .add (.int .i64 a) (.int .i64 b)=some (.int .i64 (a+b)):=by
 simp only[pbin,if_true,iarith,Option.map_some,wrap_i64 h1 h2]
theorem sub_i{a b:Int}(h1:-9223372036854775808≤a - b)(h2:a - b<9223372036854775808):pbin .sub (.int .i64 a) (.int .i64 b)=some (.int .i64 (a - b)):=by
 simp only[pbin,if_true,iarith,Option.map_some,wrap_i64 h1 h2]
theorem mul_i{a b:Int}(h1:-9223372036854775808≤a*b)(h2:a*b<9223372036854775808):pbin .mul (.int .i64 a) (.int .i64 b)=some (.int .i64 (a*b)):=by
 simp only[pbin,if_true,iarith,Option.map_some,wrap_i64 h1 h2]
end Go.Proofs.YtfbbaceiimdejaaGreatDoor.PI
