/-
  Code and functions: a function whose translation comes to a value meets its contract.
  Conditions: none; these are lemmas.
-/
import Derived.Test.YtlleccmnjpcogaaDoorEngQ
set_option linter.unusedVariables false
set_option linter.unusedSimpArgs false
namespace Go.Proofs.YtlleccmnjpcogaaDoor.PI
open Go Go.RowKit
section
variable {P:Program} {il:List Nat} {G:Glob} {T:Tbl} {base n:Nat} {w0:World} {g0:Ghost} {st0:St} {dl:List Deferred} {ro:Option Nat}
theorem cut_get {k:Nat} {st:St} {i:Nat} {o:Obj} (h:st[i]? = some o) (hi:i < k):(cut k st)[i]? = some { o with els := if o.row then o.els else o.els.map (low k) } := by
 simp [cut,hi,h]
theorem cut_inv {k:Nat} {st:St} {i:Nat} {o':Obj} (h:(cut k st)[i]? = some o'):i < k ∧ ∃ o,st[i]? = some o ∧ o' = { o with els := if o.row then o.els else o.els.map (low k) } := by
 simp only [cut,List.getElem?_map,Option.map_eq_some_iff,List.getElem?_take] at h
 obtain ⟨o,h1,h2⟩ := h
 split at h1
 ·rename_i hi; exact ⟨hi,o,h1,h2.symm⟩
 ·cases h1
theorem cut_len (k:Nat) (o:Obj):(if o.row then o.els else o.els.map (low k)).length = o.els.length := by
 split <;> simp
theorem low0_rep {w:World} {g:Ghost} {st:St} {k:Nat} {d:D} {v:Value} (h:RepV w g st d v):RepV w g (cut k st) (low0 k d) v := by
 cases h with
 | int k n => exact .int k n
 | bool b => exact .bool b
 | str s => exact .str s
 | nilp => exact .nilp
 | nilm => exact .nilm
 | gmap es b ents clock h1 h2 h3 => exact .gmap es b ents clock h1 h2 h3
 | nilf => exact .nilf
 | slcE sz t a cap h => exact .slcE sz t a cap h
 | slc els t b off cap sz val h1 h2 h3 h3' h4 h5 h6 h7 => exact RepV.pure (ImLe.refl _ _) (.slc els t b off cap sz val h1 h2 h3 h3' h4 h5 h6 h7) rfl
 | clo f ds vs h1 h2 => exact .junk _
 | row key tot off len o v h0 h1 h2 h3 h4 =>
  simp only [low0]
  split
  ·rename_i hk
   refine .row key tot off len _ v h0 (cut_get h1 hk) h2 (by simpa [cut_len] using h3) fun e => ?_
   exact h4 (by simpa [cut_len] using e)
  ·exact .junk _
 | bsl key off n sz ag o cap h1 h2 h3 h4 =>
  simp only [low0]
  split
  ·rename_i hk; exact .bsl key off n sz ag _ cap (cut_get h1 hk) h2 h3 h4
  ·exact .junk _
 | mapv key o h1 h2 =>
  simp only [low0]
  split
  ·rename_i hk; exact .mapv key _ (cut_get h1 hk) h2
  ·exact .junk _
 | ptr key off o h1 h2 h3 =>
  simp only [low0]
  split
  ·rename_i hk; exact .ptr key off _ (cut_get h1 hk) h2 h3
  ·exact .junk _
 | rptr key tot i off o v h0 h1 h2 h3 h4 =>
  simp only [low0]
  split
  ·rename_i hk
   refine .rptr key tot i off _ v h0 (cut_get h1 hk) h2 (by simpa [cut_len] using h3) fun e => ?_
   exact h4 (by simpa [cut_len] using e)
  ·exact .junk _
 | eptr el off b o val h0 h1 h2 => exact RepV.eptr_any (ImLe.refl _ _) (.eptr el off b o val h0 h1 h2)
 | agg ds vs h1 h2 => exact .junk _
 | tup ds vs h1 h2 => exact .junk _
 | junk v => exact .junk v
theorem low1_rep {w:World} {g:Ghost} {st:St} {k:Nat} {d:D} {v:Value} (h:RepV w g st d v):RepV w g (cut k st) (low1 k d) v := by
 cases d with
 | clo f l =>
  cases h with
  | clo _ _ vs h1 h2 =>
   refine .clo f _ vs (by simpa using h1) fun i d v hd hv => ?_
   simp only [List.getElem?_map,Option.map_eq_some_iff] at hd
   obtain ⟨d0,h3,rfl⟩ := hd
   exact low0_rep (h2 i d0 v h3 hv)
 | _ => exact low0_rep h
theorem low_rep {w:World} {g:Ghost} {st:St} {k:Nat} {d:D} {v:Value} (h:RepV w g st d v):RepV w g (cut k st) (low k d) v := by
 cases d with
 | agg l =>
  cases h with
  | agg _ vs h1 h2 =>
   refine .agg _ vs (by simpa using h1) fun i d v hd hv => ?_
   simp only [List.getElem?_map,Option.map_eq_some_iff] at hd
   obtain ⟨d0,h3,rfl⟩ := hd
   exact low1_rep (h2 i d0 v h3 hv)
 | tup l => exact .junk _
 | _ => exact low1_rep h
theorem low1_cells (k:Nat) (d:D):(low1 k d).cells = [low1 k d] := by
 cases d <;> simp only [low1,low0] <;> first | rfl | (split <;> rfl)
theorem one_not_agg {x:D} (h:x.cells = [x]) (l:List D):x ≠ .agg l := by
 rintro rfl
 have h:l = [.agg l] := h
 have := congrArg (fun l:List D => SizeOf.sizeOf l) h
 simp at this
 omega
theorem low_eq (k:Nat) {d:D} (h:d.cells = [d]):low k d = low1 k d := by
 cases d with
 | agg l => exact absurd rfl (one_not_agg h l)
 | _ => rfl
theorem low_cells (k:Nat) {d:D} (h:d.cells = [d]):(low k d).cells = [low k d] := by rw [low_eq k h]; exact low1_cells k d
theorem ent_map {w w':World} {g g':Ghost} {st st':St} {f1:D → D} (h1:∀ d v,RepV w g st d v → RepV w' g' st' (f1 d) v) {l:List D} {sz:Nat} (hl:l.length = sz) (hs:1 < sz) {kv vv:Value}
  (hk:RepV w g st (entK sz (.agg l)) kv) (hv:RepV w g st (entV sz (.agg l)) vv):RepV w' g' st' (entK sz (.agg (l.map f1))) kv ∧ RepV w' g' st' (entV sz (.agg (l.map f1))) vv := by
 constructor
 ·by_cases h2:sz = 2
  ·subst h2
   match l,hl with
   | [a,b],_ => exact h1 _ _ hk
  ·have e:∀ l,entK sz (.agg l) = .agg (l.take (sz - 1)) := fun l => by simp [entK,D.mk,h2]
   rw [e] at hk ⊢
   cases hk with
   | agg _ vs q1 q2 =>
    rw [← List.map_take]
    refine .agg _ vs (by simpa using q1) fun i d v hd hv => ?_
    simp only [List.getElem?_map,Option.map_eq_some_iff] at hd
    obtain ⟨d0,h3,rfl⟩ := hd
    exact h1 _ _ (q2 i d0 v h3 hv)
 ·have hd:∃ x,l.drop (sz - 1) = [x] := by
   have:(l.drop (sz - 1)).length = 1 := by rw [List.length_drop]; omega
   match l.drop (sz - 1),this with
   | [x],_ => exact ⟨x,rfl⟩
  obtain ⟨x,hx⟩ := hd
  simp only [entV,← List.map_drop,hx] at hv ⊢
  exact h1 _ _ hv
theorem MapAt.mkRec {base:Nat} {w:World} {g:Ghost} {st:St} {b:Nat} {o:Obj} (hs:o.sz = 1000003) (h:RecAt base w b o):MapAt base w g st b o := by
 unfold MapAt; rwa [if_pos hs]
theorem MapAt.mkOld {base:Nat} {w:World} {g:Ghost} {st:St} {b:Nat} {o:Obj} (hs:o.sz ≠ 1000003) (h:MapAt0 base w g st b o):MapAt base w g st b o := by
 unfold MapAt; rwa [if_neg hs]
theorem cut_sr {base:Nat} {w:World} {g:Ghost} {st:St} (h:SR base w g st) (k:Nat):SR base w g (cut k st) := by
 refine ⟨?_,?_,?_,h.im,?_,h.size⟩
 ·intro i o' hi hm
  obtain ⟨hik,o,ho,rfl⟩ := cut_inv hi
  have hm:o.isMap = true := hm
  have hr:o.row = false := isMap_row hm
  have hmp := h.mp i o ho hm
  by_cases hs:o.sz = 1000003
  ·obtain ⟨r,n,a1,a2,a3,a4⟩ := hmp.rec' hs
   refine MapAt.mkRec hs ⟨r,n,a1,a2,by simp [hr,a3,low,low1,low0],a4⟩
  obtain ⟨es,clock,h1,h2,h3,h4,h5,h5'⟩ := hmp.old hs
  refine MapAt.mkOld hs ?_
  refine ⟨es,clock,h1,h2,by rw [h3,cut_len],?_,?_,h5'⟩
  ·intro x hx
   simp only [hr,Bool.false_eq_true,if_false,List.mem_map] at hx
   obtain ⟨y,hy,rfl⟩ := hx
   obtain ⟨l,rfl,hl⟩ := h4 y hy
   exact ⟨_,rfl,by simpa using hl⟩
  ·intro j e el he hel
   simp only [hr,Bool.false_eq_true,if_false,List.getElem?_map,Option.map_eq_some_iff] at hel
   obtain ⟨el0,hel0,rfl⟩ := hel
   obtain ⟨l,rfl,hl⟩ := h4 el0 (List.mem_of_getElem? hel0)
   have h6 := h5 j e _ he hel0
   exact ent_map (fun d v h => low1_rep h) hl (isMap_sz hm) h6.1 h6.2
 ·intro i o' hi hm
  obtain ⟨hik,o,ho,rfl⟩ := cut_inv hi
  have hm:o.isMap = false := hm
  obtain ⟨C,e,hb,hbase,hszp,hx,hC,hrep⟩ := h.blk i o ho hm
  refine ⟨C,e,hb,hbase,hszp,?_,?_,?_⟩
  ·intro x hxm
   by_cases hr:o.row = true
   ·simp only [hr,if_true] at hxm; exact hx x hxm
   ·simp only [hr,Bool.false_eq_true,if_false,List.mem_map] at hxm
    simp only [hr,Bool.false_eq_true,if_false] at hC
    obtain ⟨y,hy,rfl⟩ := hxm
    rw [low_cells k (hC.2.2 y hy),hC.2.1]; rfl
  ·by_cases hr:o.row = true
   ·simp only [hr,if_true] at hC ⊢; exact hC
   ·simp only [hr,Bool.false_eq_true,if_false] at hC ⊢
    refine ⟨by simpa using hC.1,hC.2.1,fun x hxm => ?_⟩
    simp only [List.mem_map] at hxm
    obtain ⟨y,hy,rfl⟩ := hxm
    exact low_cells k (hC.2.2 y hy)
  ·intro i' j d hd
   by_cases hr:o.row = true
   ·simp only [hr,if_true] at hd
    obtain ⟨h1,v,h2,h3⟩ := hrep i' j d hd
    exact ⟨h1,v,h2,h3.pure (ImLe.refl _ _) (h1 hr)⟩
   ·simp only [hr,Bool.false_eq_true,if_false] at hd hC
    obtain ⟨e',he,hj⟩ := cellAt_some hd
    simp only [List.getElem?_map,Option.map_eq_some_iff] at he
    obtain ⟨e0,he0,rfl⟩ := he
    rw [low_cells k (hC.2.2 e0 (List.mem_of_getElem? he0))] at hj
    have hj0:j = 0 ∧ d = low k e0 := by
     cases j with
     | zero => simp at hj; exact ⟨rfl,hj.symm⟩
     | succ j => simp at hj
    obtain ⟨rfl,rfl⟩ := hj0
    obtain ⟨_,v,h2,h3⟩ := hrep i' 0 e0 (cellAt_mk he0 (by rw [hC.2.2 e0 (List.mem_of_getElem? he0)]; rfl))
    exact ⟨fun e => absurd e hr,v,h2,low_rep h3⟩
 ·intro k1 k2 o1 o2 h1 h2 he
  obtain ⟨_,p1,q1,_⟩ := cut_inv h1
  obtain ⟨_,p2,q2,_⟩ := cut_inv h2
  exact h.inj _ _ _ _ q1 q2 he
 ·intro k1 o1 x h1 hi
  obtain ⟨_,p1,q1,rfl⟩ := cut_inv h1
  have := h.dis _ _ _ q1 hi
  exact ⟨this.1,by simpa [cut_len] using this.2⟩
def posn (n:Nat) (σ:List Nat) (j:Nat):Nat := if j < n then j else σ.getD (j - n) 0
def gRen (n:Nat) (σ:List Nat) (g:Ghost):Ghost := { β := fun j => g.β (posn n σ j),γ := fun j => g.γ (posn n σ j),Im := g.Im }
theorem posIn_spec:∀ (σ:List Nat) (b key j:Nat),posIn σ b key = some j → b ≤ j ∧ σ[j - b]? = some key
 | [],_,_,_,h => by cases h
 | k :: r,b,key,j,h => by
  simp only [posIn] at h
  split at h
  ·rename_i e
   simp only [Option.some.injEq] at h
   subst h; subst e
   exact ⟨Nat.le_refl _,by simp⟩
  ·obtain ⟨h1,h2⟩ := posIn_spec r (b + 1) key j h
   refine ⟨by omega,?_⟩
   rw [show j - b = (j - (b + 1)) + 1 by omega,List.getElem?_cons_succ]
   exact h2
theorem renK_posn {n:Nat} {σ:List Nat} {key j:Nat} (h:renK n σ key = some j):posn n σ j = key ∧ (j < n ∨ (n ≤ j ∧ σ[j - n]? = some key)) := by
 unfold renK at h
 split at h
 ·rename_i hk
  simp only [Option.some.injEq] at h
  subst h
  exact ⟨by simp [posn,hk],.inl hk⟩
 ·obtain ⟨h1,h2⟩ := posIn_spec σ n key j h
  exact ⟨by simp [posn,Nat.not_lt.2 h1,List.getD_eq_getElem?_getD,h2],.inr ⟨h1,h2⟩⟩
theorem renO_len (n:Nat) (σ:List Nat) (o:Obj):(renO n σ o).els.length = o.els.length := by
 simp only [renO]; split <;> simp
theorem picked_get {n:Nat} {σ:List Nat} {st:St} (hn:n ≤ st.length) {key j:Nat} {o:Obj} (h:renK n σ key = some j) (ho:st[key]? = some o):(picked n σ st)[j]? = some (renO n σ o) := by
 obtain ⟨h1,h2⟩ := renK_posn h
 have hl:((st.take n).map (renO n σ)).length = n := by simp; omega
 rcases h2 with h2 | ⟨h2,h3⟩
 ·have:j = key := by rw [← h1]; simp [posn,h2]
  subst this
  rw [picked,List.getElem?_append_left (by omega)]
  simp [h2,ho]
 ·rw [picked,List.getElem?_append_right (by omega),hl]
  simp [h3,List.getD_eq_getElem?_getD,ho]
theorem picked_inv {n:Nat} {σ:List Nat} {st:St} (hn:n ≤ st.length) (hσ:∀ k ∈ σ,k < st.length) {j:Nat} {o':Obj} (h:(picked n σ st)[j]? = some o') :
  ∃ o,st[posn n σ j]? = some o ∧ o' = renO n σ o ∧ (j < n ∨ (n ≤ j ∧ σ[j - n]? = some (posn n σ j))) := by
 have hl:((st.take n).map (renO n σ)).length = n := by simp; omega
 rcases Nat.lt_or_ge j n with hj | hj
 ·rw [picked,List.getElem?_append_left (by omega)] at h
  simp only [List.getElem?_map,List.getElem?_take,hj,if_true,Option.map_eq_some_iff] at h
  obtain ⟨o,h1,h2⟩ := h
  exact ⟨o,by simpa [posn,hj] using h1,h2.symm,.inl hj⟩
 ·rw [picked,List.getElem?_append_right (by omega),hl] at h
  simp only [List.getElem?_map,Option.map_eq_some_iff] at h
  obtain ⟨k,h1,h2⟩ := h
  have hk := hσ k (List.mem_of_getElem? h1)
  have hp:posn n σ j = k := by simp [posn,Nat.not_lt.2 hj,List.getD_eq_getElem?_getD,h1]
  refine ⟨st[k],by rw [hp,List.getElem?_eq_getElem hk],?_,.inr ⟨hj,by rw [hp]; exact h1⟩⟩
  rw [← h2]
  simp [List.getD_eq_getElem?_getD,List.getElem?_eq_getElem hk]
theorem orJunk_rep {w:World} {g:Ghost} {st:St} {f:Nat → D} {o:Option Nat} {v:Value} (h:∀ j,o = some j → RepV w g st (f j) v):RepV w g st (orJunk f o) v := by
 cases o with
 | none => exact .junk _
 | some j => exact h j rfl
theorem ren0_rep {w:World} {g:Ghost} {st:St} {n:Nat} {σ:List Nat} (hn:n ≤ st.length) {d:D} {v:Value} (h:RepV w g st d v):RepV w (gRen n σ g) (picked n σ st) (ren0 n σ d) v := by
 have hI:ImLe w g w (gRen n σ g) := ⟨fun b o h => ⟨h,rfl⟩,fun _ _ h _ => h⟩
 cases h with
 | int k n => exact .int k n
 | bool b => exact .bool b
 | str s => exact .str s
 | nilp => exact .nilp
 | nilm => exact .nilm
 | gmap es b ents clock h1 h2 h3 => exact .gmap es b ents clock h1 h2 h3
 | nilf => exact .nilf
 | slcE sz t a cap h => exact .slcE sz t a cap h
 | slc els t b off cap sz val h1 h2 h3 h3' h4 h5 h6 h7 => exact RepV.pure hI (.slc els t b off cap sz val h1 h2 h3 h3' h4 h5 h6 h7) rfl
 | clo f ds vs h1 h2 => exact .junk _
 | row key tot off len o v h0 h1 h2 h3 h4 =>
  refine orJunk_rep fun j hj => ?_
  refine .row j tot off len _ v h0 (picked_get hn hj h1) h2 (by rw [renO_len]; exact h3) fun e => ?_
  have := h4 (by rw [renO_len] at e; exact e)
  simp only [gRen,(renK_posn hj).1]
  exact this
 | bsl key off m sz ag o cap h1 h2 h3 h4 =>
  refine orJunk_rep fun j hj => ?_
  have := RepV.bsl (w := w) (g := gRen n σ g) j off m sz ag _ cap (picked_get (σ := σ) hn hj h1) h2 h3 h4
  simp only [gRen,(renK_posn hj).1] at this
  exact this
 | mapv key o h1 h2 =>
  refine orJunk_rep fun j hj => ?_
  have := RepV.mapv (w := w) (g := gRen n σ g) j _ (picked_get (σ := σ) hn hj h1) h2
  simp only [gRen,(renK_posn hj).1] at this
  exact this
 | ptr key off o h1 h2 h3 =>
  refine orJunk_rep fun j hj => ?_
  have := RepV.ptr (w := w) (g := gRen n σ g) j off _ (picked_get (σ := σ) hn hj h1) h2 h3
  simp only [gRen,(renK_posn hj).1] at this
  exact this
 | rptr key tot i off o v h0 h1 h2 h3 h4 =>
  refine orJunk_rep fun j hj => ?_
  refine .rptr j tot i off _ v h0 (picked_get hn hj h1) h2 (by rw [renO_len]; exact h3) fun e => ?_
  have := h4 (by rw [renO_len] at e; exact e)
  simp only [gRen,(renK_posn hj).1]
  exact this
 | eptr el off b o val h0 h1 h2 => exact RepV.eptr_any hI (.eptr el off b o val h0 h1 h2)
 | agg ds vs h1 h2 => exact .junk _
 | tup ds vs h1 h2 => exact .junk _
 | junk v => exact .junk v
theorem ren1_rep {w:World} {g:Ghost} {st:St} {n:Nat} {σ:List Nat} (hn:n ≤ st.length) {d:D} {v:Value} (h:RepV w g st d v):RepV w (gRen n σ g) (picked n σ st) (ren1 n σ d) v := by
 cases d with
 | clo f l =>
  cases h with
  | clo _ _ vs h1 h2 =>
   refine .clo f _ vs (by simpa using h1) fun i d v hd hv => ?_
   simp only [List.getElem?_map,Option.map_eq_some_iff] at hd
   obtain ⟨d0,h3,rfl⟩ := hd
   exact ren0_rep hn (h2 i d0 v h3 hv)
 | _ => exact ren0_rep hn h
theorem ren_rep {w:World} {g:Ghost} {st:St} {n:Nat} {σ:List Nat} (hn:n ≤ st.length) {d:D} {v:Value} (h:RepV w g st d v):RepV w (gRen n σ g) (picked n σ st) (ren n σ d) v := by
 cases d with
 | agg l =>
  cases h with
  | agg _ vs h1 h2 =>
   refine .agg _ vs (by simpa using h1) fun i d v hd hv => ?_
   simp only [List.getElem?_map,Option.map_eq_some_iff] at hd
   obtain ⟨d0,h3,rfl⟩ := hd
   exact ren1_rep hn (h2 i d0 v h3 hv)
 | tup l => exact .junk _
 | _ => exact ren1_rep hn h
theorem ren1_cells (n:Nat) (σ:List Nat) (d:D):(ren1 n σ d).cells = [ren1 n σ d] := by
 cases d <;> simp only [ren1,ren0,orJunk] <;> first | rfl | (split <;> rfl)
theorem ren_eq (n:Nat) (σ:List Nat) {d:D} (h:d.cells = [d]):ren n σ d = ren1 n σ d := by
 cases d with
 | agg l => exact absurd rfl (one_not_agg h l)
 | _ => rfl
theorem ren_cells (n:Nat) (σ:List Nat) {d:D} (h:d.cells = [d]):(ren n σ d).cells = [ren n σ d] := by rw [ren_eq n σ h]; exact ren1_cells n σ d
theorem uniq_spec (lo hi:Nat):∀ (l acc:List Nat),(acc.Nodup ∧ ∀ k ∈ acc,lo ≤ k ∧ k < hi) → (uniq lo hi l acc).Nodup ∧ ∀ k ∈ uniq lo hi l acc,lo ≤ k ∧ k < hi
 | [],_,h => h
 | k :: r,acc,h => by
  simp only [uniq]
  refine uniq_spec lo hi r _ ?_
  split
  ·rename_i hk
   refine ⟨?_,fun q hq => ?_⟩
   ·rw [List.nodup_append]
    refine ⟨h.1,by simp,fun a ha b hb e => ?_⟩
    simp only [List.mem_singleton] at hb
    subst hb; subst e
    have := hk.2.2
    simp [ha] at this
   ·simp only [List.mem_append,List.mem_singleton] at hq
    rcases hq with hq | rfl
    ·exact h.2 q hq
    ·exact ⟨hk.1,hk.2.1⟩
  ·exact h
theorem picked_sr {base:Nat} {w:World} {g:Ghost} {st:St} (h:SR base w g st) {n:Nat} {σ:List Nat} (hn:n ≤ st.length) (hd:σ.Nodup) (hσ:∀ k ∈ σ,n ≤ k ∧ k < st.length):SR base w (gRen n σ g) (picked n σ st) := by
 have inv := fun {j:Nat} {o':Obj} (h:(picked n σ st)[j]? = some o') => picked_inv hn (fun k hk => (hσ k hk).2) h
 refine ⟨?_,?_,?_,h.im,?_,h.size⟩
 ·intro i o' hi hm
  obtain ⟨o,ho,rfl,hpos⟩ := inv hi
  have hm:o.isMap = true := hm
  have hr:o.row = false := isMap_row hm
  have hmp := h.mp _ o ho hm
  by_cases hs:o.sz = 1000003
  ·obtain ⟨r,n,a1,a2,a3,a4⟩ := hmp.rec' hs
   refine MapAt.mkRec hs ⟨r,n,a1,a2,by simp [renO,hr,a3,ren,ren1,ren0],a4⟩
  obtain ⟨es,clock,h1,h2,h3,h4,h5,h5'⟩ := hmp.old hs
  refine MapAt.mkOld hs ?_
  refine ⟨es,clock,h1,h2,by rw [h3,renO_len],?_,?_,h5'⟩
  ·intro x hx
   simp only [renO,hr,Bool.false_eq_true,if_false,List.mem_map] at hx
   obtain ⟨y,hy,rfl⟩ := hx
   obtain ⟨l,rfl,hl⟩ := h4 y hy
   exact ⟨_,rfl,by rw [List.length_map]; exact hl⟩
  ·intro j e el he hel
   simp only [renO,hr,Bool.false_eq_true,if_false,List.getElem?_map,Option.map_eq_some_iff] at hel
   obtain ⟨el0,hel0,rfl⟩ := hel
   obtain ⟨l,rfl,hl⟩ := h4 el0 (List.mem_of_getElem? hel0)
   have h6 := h5 j e _ he hel0
   exact ent_map (fun d v h => ren1_rep hn h) hl (isMap_sz hm) h6.1 h6.2
 ·intro i o' hi hm
  obtain ⟨o,ho,rfl,hpos⟩ := inv hi
  have hm:o.isMap = false := hm
  obtain ⟨C,e,hb,hbase,hszp,hx,hC,hrep⟩ := h.blk _ o ho hm
  refine ⟨C,e,hb,hbase,hszp,?_,?_,?_⟩
  ·intro x hxm
   simp only [renO] at hxm ⊢
   by_cases hr:o.row = true
   ·simp only [hr,if_true] at hxm; exact hx x hxm
   ·simp only [hr,Bool.false_eq_true,if_false,List.mem_map] at hxm
    simp only [hr,Bool.false_eq_true,if_false] at hC
    obtain ⟨y,hy,rfl⟩ := hxm
    rw [ren_cells n σ (hC.2.2 y hy),hC.2.1]; rfl
  ·simp only [renO]
   by_cases hr:o.row = true
   ·simp only [hr,if_true] at hC ⊢; exact hC
   ·simp only [hr,Bool.false_eq_true,if_false] at hC ⊢
    refine ⟨by simpa using hC.1,hC.2.1,fun x hxm => ?_⟩
    simp only [List.mem_map] at hxm
    obtain ⟨y,hy,rfl⟩ := hxm
    exact ren_cells n σ (hC.2.2 y hy)
  ·intro i' j d hd'
   simp only [renO] at hd' ⊢
   by_cases hr:o.row = true
   ·simp only [hr,if_true] at hd'
    obtain ⟨h1,v,h2,h3⟩ := hrep i' j d hd'
    exact ⟨h1,v,h2,RepV.pure (g := g) (g' := gRen n σ g) ⟨fun b o h => ⟨h,rfl⟩,fun _ _ h _ => h⟩ h3 (h1 hr)⟩
   ·simp only [hr,Bool.false_eq_true,if_false] at hd' hC
    obtain ⟨e',he,hj⟩ := cellAt_some hd'
    simp only [List.getElem?_map,Option.map_eq_some_iff] at he
    obtain ⟨e0,he0,rfl⟩ := he
    rw [ren_cells n σ (hC.2.2 e0 (List.mem_of_getElem? he0))] at hj
    have hj0:j = 0 ∧ d = ren n σ e0 := by
     cases j with
     | zero => simp at hj; exact ⟨rfl,hj.symm⟩
     | succ j => simp at hj
    obtain ⟨rfl,rfl⟩ := hj0
    obtain ⟨_,v,h2,h3⟩ := hrep i' 0 e0 (cellAt_mk he0 (by rw [hC.2.2 e0 (List.mem_of_getElem? he0)]; rfl))
    exact ⟨fun e => absurd e hr,v,h2,ren_rep hn h3⟩
 ·intro k1 k2 o1 o2 h1 h2 he
  obtain ⟨p1,q1,_,r1⟩ := inv h1
  obtain ⟨p2,q2,_,r2⟩ := inv h2
  have e := h.inj _ _ _ _ q1 q2 he
  rcases r1 with r1 | ⟨r1,s1⟩ <;> rcases r2 with r2 | ⟨r2,s2⟩
  ·simpa [posn,r1,r2] using e
  ·have := (hσ _ (List.mem_of_getElem? s2)).1
   rw [← e] at this
   simp only [posn,r1,if_true] at this
   omega
  ·have := (hσ _ (List.mem_of_getElem? s1)).1
   rw [e] at this
   simp only [posn,r2,if_true] at this
   omega
  ·rw [e] at s1
   have h3 := (List.getElem?_inj (List.getElem?_eq_some_iff.1 s1).1 hd).1 (s1.trans s2.symm)
   omega
 ·intro k1 o1 x h1 hi
  obtain ⟨o,q1,rfl,_⟩ := inv h1
  have := h.dis _ _ _ q1 hi
  exact ⟨this.1,by rw [renO_len]; exact this.2⟩
theorem mkF_rep {w:World} {g:Ghost} {st:St} {n:Nat} {σ:List Nat} (hn:n ≤ st.length) {fr:Frame} {a:Act} (h:FR w g st fr a):∀ (keep:List Nat),FR w (gRen n σ g) (picked n σ st) (mkF (keep.map fun q => (q,ren n σ (fr q)))) a
 | [],_ => .junk _
 | q :: r,s => by
  simp only [List.map_cons,mkF]
  split
  ·rename_i e; subst e; exact ren_rep hn (h s)
  ·exact mkF_rep hn h r s
theorem Evo.len {g g':Ghost} {st st':St} (h:Evo g st g' st'):st.length ≤ st'.length := by
 rcases Nat.lt_or_ge st'.length st.length with h1 | h1
 ·obtain ⟨o',h2,_⟩ := h st'.length st[st'.length] (List.getElem?_eq_getElem h1)
  rw [List.getElem?_eq_none (Nat.le_refl _)] at h2
  cases h2
 ·exact h1
theorem Evo.cut {g g':Ghost} {st st':St} (h:Evo g st g' st') {k:Nat} (hk:st.length ≤ k):Evo g st g' (PI.cut k st') := by
 intro i o hi
 obtain ⟨o',h1,h2,h3,h4,h5,h6⟩ := h i o hi
 have:i < st.length := (List.getElem?_eq_some_iff.1 hi).1
 exact ⟨_,cut_get h1 (by omega),h2,h3,by simpa [cut_len] using h4,fun e => h5 (by simpa [cut_len] using e),h6⟩
theorem Go1.cut {w w':World} {g g':Ghost} {st st':St} (h:Go1 base w g st w' g' st') {k:Nat} (hk:st.length ≤ k):Go1 base w g st w' g' (PI.cut k st') :=
 ⟨cut_sr h.sr k,h.evo.cut hk,h.im,h.new,h.below,h.kp⟩
theorem Go1.picked {w w':World} {g g':Ghost} {st st':St} (h:Go1 base w g st w' g' st') {n:Nat} {σ:List Nat} (hk:st.length ≤ n) (hn:n ≤ st'.length) (hd:σ.Nodup) (hσ:∀ k ∈ σ,n ≤ k ∧ k < st'.length):Go1 base w g st w' (gRen n σ g') (PI.picked n σ st') := by
 refine ⟨picked_sr h.sr hn hd hσ,?_,⟨h.im.im,h.im.kp⟩,h.new,h.below,h.kp⟩
 intro i o hi
 obtain ⟨o',h1,h2,h3,h4,h5,h6⟩ := h.evo i o hi
 have hlt:i < st.length := (List.getElem?_eq_some_iff.1 hi).1
 have hp:posn n σ i = i := by simp [posn,show i < n by omega]
 refine ⟨_,picked_get (key := i) (j := i) hn (by simp [renK,show i < n by omega]) h1,h2,h3,by rw [renO_len]; exact h4,fun e => ?_,fun e => ?_⟩
 ·simp only [gRen,hp]; exact h5 (by rw [renO_len] at e; exact e)
 ·simp only [gRen,hp]; exact h6 e
theorem R.restrict {s:PS} {a:Act} {w:World} (h:R G base n w0 g0 st0 dl s a w) (keep:List Nat) (k:Nat) (hk:st0.length ≤ k):R G base n w0 g0 st0 dl (restrict keep k s) a w := by
 obtain ⟨g,h⟩ := h
 unfold PI.restrict
 generalize hm:(if k ≤ s.st.length then k else s.st.length) = m
 have hm1:m ≤ s.st.length := by rw [← hm]; split <;> omega
 have hm2:st0.length ≤ m := by
  have := h.go1.evo.len
  rw [← hm]; split <;> omega
 generalize hl:uniq m s.st.length (keysIn keep m s) [] = σ
 have hσ := uniq_spec m s.st.length (keysIn keep m s) [] ⟨List.nodup_nil,fun _ h => by cases h⟩
 rw [hl] at hσ
 exact ⟨gRen m σ g,h.go1.picked hm2 hm1 hσ.1 hσ.2,mkF_rep hm1 h.fr keep,h.gl.mono ⟨fun b o h => ⟨h,rfl⟩,fun _ _ h _ => h⟩,h.df,h.sz⟩
theorem keepF_rep {w:World} {g:Ghost} {st:St} {fr:Frame} {a:Act} (h:FR w g st fr a):∀ (keep:List Nat),FR w g st (mkF (keep.map fun q => (q,fr q))) a
 | [],_ => .junk _
 | q :: r,s => by
  simp only [List.map_cons,mkF]
  split
  ·rename_i e; subst e; exact h s
  ·exact keepF_rep h r s
theorem R.keepAll {s:PS} {a:Act} {w:World} (h:R G base n w0 g0 st0 dl s a w) (keep:List Nat):R G base n w0 g0 st0 dl (PI.keepAll keep s) a w := by
 obtain ⟨g,h⟩ := h
 exact ⟨g,h.go1,keepF_rep h.fr keep,h.gl,h.df,h.sz⟩
theorem R.restrictAt {s:PS} {a:Act} {w:World} (h:R G base n w0 g0 st0 dl s a w) (keep:List Nat) (m:Nat) (σ:List Nat) (hm1:m ≤ s.st.length) (hm2:st0.length ≤ m) (hd:σ.Nodup) (hσ:∀ k ∈ σ,m ≤ k ∧ k < s.st.length):R G base n w0 g0 st0 dl (restrictAt keep m σ s) a w := by
 obtain ⟨g,h⟩ := h
 exact ⟨gRen m σ g,h.go1.picked hm2 hm1 hd hσ,mkF_rep hm1 h.fr keep,h.gl.mono ⟨fun b o h => ⟨h,rfl⟩,fun _ _ h _ => h⟩,h.df,h.sz⟩
theorem zok_of {ops:Array Oper} {l:List PI} {bad:Option (Nat × Nat)} {ord:List Nat} (hord:isOrd ops.size ord = true) {F:List (Option Foot)} (hF:F.length = ord.length)
  (hp:∀ (p q i j:Nat),q < p → ord[p]? = some i → ord[q]? = some j → ((masks ops.toList []).getD i 0).testBit j = false → bad ≠ some (j,i) → Pair (l.getD j default,F.getD q none) (l.getD i default,F.getD p none)) :
  ZOK (masks ops.toList []) l ops.size bad (ord.zip F) ∧ (∀ z ∈ ord.zip F,z.1 < ops.size) ∧ (∀ (listed:Array Bool),(∀ i,i < ops.size → listed.getD i true = false) → Zof l (restOf listed (ord.zip F)) = (ord.map fun k => l.getD k default).zip F) := by
 simp only [isOrd,Bool.and_eq_true,beq_iff_eq,List.all_eq_true,List.mem_range] at hord
 obtain ⟨h1,h2⟩ := hord
 have hsub:∀ x ∈ List.range ops.size,x ∈ ord := fun x hx => by simpa using h2 x (List.mem_range.1 hx)
 have hperm:ord.Perm (List.range ops.size) := (permSub _ _ List.nodup_range hsub (by rw [List.length_range]; omega)).symm
 have hnd:ord.Nodup := hperm.nodup_iff.2 List.nodup_range
 have hlt:∀ k ∈ ord,k < ops.size := fun k hk => List.mem_range.1 (hperm.mem_iff.1 hk)
 have hmap:(ord.zip F).map (·.1) = ord := by
  rw [List.map_fst_zip (by omega)]
 refine ⟨⟨by rw [hmap]; exact hnd,?_,?_⟩,?_,?_⟩
 ·intro k hk
  have:k ∈ (ord.zip F).map (·.1) := by rw [hmap]; exact hsub k (List.mem_range.2 hk)
  obtain ⟨z,hz,rfl⟩ := List.mem_map.1 this
  exact ⟨z.2,hz⟩
 ·rw [List.pairwise_iff_getElem]
  intro q p hq hp' hqp hm hb
  have hq1:q < ord.length := by simp at hq; omega
  have hp1:p < ord.length := by simp at hp'; omega
  have e1:F.getD q none = F[q] := by simp [List.getD_eq_getElem?_getD,show q < F.length by omega]
  have e2:F.getD p none = F[p] := by simp [List.getD_eq_getElem?_getD,show p < F.length by omega]
  have := hp p q ord[p] ord[q] hqp (List.getElem?_eq_getElem hp1) (List.getElem?_eq_getElem hq1)
  rw [e1,e2] at this
  simp only [List.getElem_zip] at hm hb ⊢
  exact this hm hb
 ·intro z hz
  exact hlt z.1 (by rw [← hmap]; exact List.mem_map_of_mem hz)
 ·intro listed hu
  have:restOf listed (ord.zip F) = ord.zip F := by
   simp only [restOf,List.filter_eq_self]
   intro z hz
   rw [hu z.1 (hlt z.1 (by rw [← hmap]; exact List.mem_map_of_mem hz))]
   rfl
  rw [this,Zof]
  apply List.ext_getElem?
  intro i
  rcases Nat.lt_or_ge i ord.length with h3 | h3
  ·have h4:i < F.length := by omega
   rw [List.getElem?_eq_getElem (by simp; omega),List.getElem?_eq_getElem (by simp; omega)]
   simp
  ·rw [List.getElem?_eq_none (by simp; omega),List.getElem?_eq_none (by simp; omega)]
def exOf:Ex → Exit
 | .next => .normal
 | .exit id => .exit id
 | .ret => .ret
 | .panic t d => .panic (chainOf t d)
theorem list_code (hT:TblOK P G T) (hY:YOK P G T.y base w0 g0 st0) {ops:Array Oper} {id:Nat} {draw:Bool} {h:List (List Nat)} {r:PC × List (List Nat)} (ht:trC P il n h (.region id ops draw) = some r) {fuel:Nat} {s s':PS} {e:Ex} (hx:r.1.exec G T fuel s = some (e,s'))
  {a:Act} {w:World} (hR:R G base n w0 g0 st0 dl s a w) {Q:Exit → Act → World → Prop} (hQ:∀ a' w',R G base n w0 g0 st0 dl s' a' w' → Q (exOf e) a' w'):(Code.region id ops draw).wpIn (Wr ro) 0 P Q a w := by
 have hrun:∀ l',r.1 = .ops l' → e = .next ∧ execs G T l' s = some s' := by
  intro l' h1
  rw [h1] at hx
  simp only [PC.exec] at hx
  split at hx
  ·rename_i s1 hs1
   simp only [Option.some.injEq,Prod.mk.injEq] at hx
   obtain ⟨rfl,rfl⟩ := hx
   exact ⟨rfl,hs1⟩
  ·cases hx
 unfold trC at ht
 cases draw with
 | false =>
  simp only [Bool.false_eq_true,if_false] at ht
  split at ht
  ·rename_i pre d1 t xo hp
   obtain ⟨o1,o2,hl,h1,h3,h2,hd1,hg1,hg2,u,hu,hne⟩ := trPan_spec hp
   split at ht
   case h_2 =>
    simp only [Option.some.injEq] at ht
    subst ht
    simp [PC.exec] at hx
   rename_i l x hl' hx'
   simp only [Option.some.injEq] at ht
   subst ht
   simp only [PC.exec] at hx
   split at hx
   case h_2 => cases hx
   rename_i s1 hs1
   split at hx
   case isFalse => cases hx
   rename_i hi
   simp only [Option.some.injEq,Prod.mk.injEq] at hx
   obtain ⟨rfl,rfl⟩ := hx
   refine wpIn_region_list ?_
   rw [hl]
   exact list_simUR hT hY _ _ _ _ _ _ hl' hs1 hR fun a' w' hR' => pan_sim hR' h1 h3 h2 hd1 hg1 hg2 hu hne hx' hi (fun a'' hR'' => hQ a'' w' hR'')
  ·simp only [Option.map_eq_some_iff] at ht
   obtain ⟨l,hl,rfl⟩ := ht
   by_cases hxl:l.any (isX il) = true
   ·simp only [hxl,if_true,PC.exec] at hx
    split at hx
    ·rename_i s1 hs1
     simp only [Option.some.injEq,Prod.mk.injEq] at hx
     obtain ⟨rfl,rfl⟩ := hx
     exact wpIn_region_list (list_simU hT hY _ _ _ _ _ _ hl hs1 hR hQ)
    ·simp only [Option.map_eq_some_iff,Prod.mk.injEq] at hx
     obtain ⟨⟨t,d,s2⟩,hx,rfl,rfl⟩ := hx
     exact wpIn_region_list (list_simX hT hY _ _ _ _ _ _ hl hx hR hQ)
   ·obtain ⟨rfl,hs⟩ := hrun l (by simp only [hxl,if_false,Bool.false_eq_true])
    exact wpIn_region_list (list_simU hT hY _ _ _ _ _ _ hl hs hR hQ)
 | true =>
  simp only [if_true] at ht
  split at ht
  case h_2 => cases ht
  rename_i l hl
  have hlen := (trIs_get hl).1
  have hl':l.length = ops.size := by simpa using hlen
  have hu:∀ i,i < ops.size → (Array.replicate ops.size false).getD i true = false := by
   intro i hi
   simp [Array.getD,hi]
  have h0:(unlisted ops.size (Array.replicate ops.size false)).length ≤ ops.size := by
   unfold unlisted
   exact Nat.le_trans (List.length_filter_le ..) (by simp)
  have hcl:Closed ops.toList (Array.replicate ops.size false) := by
   intro i o _ hi
   rcases Nat.lt_or_ge i ops.size with h1 | h1
   ·simp [Array.getD,h1] at hi
   ·simp [Array.getD,Nat.not_lt.2 h1] at hi
  have hrg:isOrd ops.size (List.range ops.size) = true := by simp [isOrd]
  have hmr:(List.range ops.size).map (fun k => l.getD k default) = l := by
   apply List.ext_getElem?
   intro i
   rcases Nat.lt_or_ge i ops.size with h1 | h1
   ·simp [h1,hl',List.getD_eq_getElem?_getD]
   ·simp [Nat.not_lt.2 h1,hl']
  have hend:∀ (F:List (Option Foot)),F.length = l.length → Run G T (l.zip F) s s' → e = .next → P.follows .mixedOrders = true → lexical ops.toList = true →
    (∀ (i j:Nat) (x y:PI),l[j]? = some x → l[i]? = some y → j < i → ((masks ops.toList []).getD i 0).testBit j = false → Pair (x,F.getD j none) (y,F.getD i none)) → (Code.region id ops true).wpIn (Wr ro) 0 P Q a w := by
   intro F hF hs he hmix hlex hp
   subst he
   obtain ⟨k1,k2,k3⟩ := zok_of (l := l) (bad := none) hrg (F := F) (by simp [hF,hl']) (fun p q i j hqp hi hj hm _ => by
    have hi1 := (List.getElem?_eq_some_iff.1 hi).1
    have hj1 := (List.getElem?_eq_some_iff.1 hj).1
    simp only [List.length_range] at hi1 hj1
    rw [List.getElem?_range hi1] at hi
    rw [List.getElem?_range hj1] at hj
    obtain rfl := Option.some.inj hi
    obtain rfl := Option.some.inj hj
    exact hp p q _ _ (by simp [List.getD_eq_getElem?_getD,hl',hj1]) (by simp [List.getD_eq_getElem?_getD,hl',hi1]) hqp hm)
   refine wpIn_region_any hmix (any_sim1 hT hY hl hlex k1 k2 hQ ops.size _ s a _ (by simp) h0 hcl ?_ hR.drew)
   rw [k3 _ hu,hmr]
   exact hs
  split at ht
  case isFalse =>
   simp only [Option.some.injEq] at ht
   subst ht
   simp [PC.exec] at hx
  rename_i hc
  simp only [Bool.and_eq_true] at hc
  have any2ok:∀ (x y:Nat) (keep:List Nat) (q1 q2:List (PI × Bool × List Nat)),anyOrd (masks ops.toList []) l (some (x,y)) (List.range ops.size) = some q1 → anyOrd (masks ops.toList []) l (some (y,x)) (ord2 (masks ops.toList []) ops.size x y) = some q2 →
    isOrd ops.size (ord2 (masks ops.toList []) ops.size x y) = true → x ≠ y → (∀ k,k = x ∨ k = y → k < ops.size) → PC.exec G T fuel (.any2 keep q1 q2) s = some (e,s') → (Code.region id ops true).wpIn (Wr ro) 0 P Q a w := by
   intro x y keep q1 q2 hq1 hq2 hio hxy hin hz
   simp only [PC.exec] at hz
   split at hz
   case h_2 => cases hz
   rename_i s1 s2 hs1 hs2
   simp only [Option.map_eq_some_iff,Prod.mk.injEq] at hz
   obtain ⟨s3,hz,rfl,rfl⟩ := hz
   unfold same2 at hz
   split at hz
   case isFalse => cases hz
   rename_i hlen1
   obtain ⟨hl1,hl2,heq⟩ := hlen1
   simp only [Option.some.injEq] at hz
   subst hz
   have hk:st0.length ≤ s.st.length := by
    obtain ⟨g,hg⟩ := hR
    exact hg.go1.evo.len
   have alt:∀ (bad:Nat × Nat) (ord:List Nat) (q:List (PI × Bool × List Nat)) (sq:PS),isOrd ops.size ord = true → anyOrd (masks ops.toList []) l (some bad) ord = some q → anys G T q [] s = some sq →
     ∃ Z,ZOK (masks ops.toList []) l ops.size (some bad) Z ∧ (∀ z ∈ Z,z.1 < ops.size) ∧ Run G T (Zof l (restOf (Array.replicate ops.size false) Z)) s sq := by
    intro bad ord q sq ho hq hsq
    obtain ⟨p1,p2,p3⟩ := anyOrd_spec hq
    obtain ⟨F,hF,hr,hck⟩ := run_of_anys q [] s sq hsq
    obtain ⟨k1,k2,k3⟩ := zok_of (l := l) (bad := some bad) ho (F := F) (by rw [hF,p1]) (fun p r i j hrp hi hj hm hb => by
     obtain ⟨b,e1,e2⟩ := p3 p i hi
     have hjd:ord.getD r 0 = j := by simp [List.getD_eq_getElem?_getD,hj]
     by_cases hap:(l.getD j default).apart (l.getD i default) = true
     ·exact ⟨regs_of_apart hap,.inl hap⟩
     ·have hmem:r ∈ csOrd (masks ops.toList []) l (some bad) ord p i := by
       simp only [csOrd,List.mem_filter,List.mem_range,hjd,hm,Bool.not_false,Bool.true_and,Bool.and_eq_true,Bool.not_eq_true',beq_eq_false_iff_ne]
       exact ⟨hrp,by simpa using hap,hb⟩
      obtain ⟨f,g,a1,a2,a3⟩ := hck p _ e1 r hmem
      have a4:F[r]? = some (some f) := by
       rcases a3 with a3 | ⟨_,a3⟩
       ·simp at a3
       ·simpa using a3
      have hrg := e2 r hmem
      rw [hjd] at hrg
      refine ⟨hrg,.inr ⟨f,g,?_,?_,a2⟩⟩
      ·simp [List.getD_eq_getElem?_getD,a4]
      ·simp [List.getD_eq_getElem?_getD,a1])
    refine ⟨_,k1,k2,?_⟩
    rw [k3 _ hu,← p2]
    exact hr
   obtain ⟨Z1,z1,z1',r1⟩ := alt (x,y) _ q1 s1 hrg hq1 hs1
   obtain ⟨Z2,z2,z2',r2⟩ := alt (y,x) _ q2 s2 hio hq2 hs2
   refine wpIn_region_any hc.1 (any_sim2 hT hY hl hc.2 hxy (hin x (.inl rfl)) z1 z2 z1' z2' (sf1 := s1) (sf2 := s2) ?_ ?_ ops.size _ s a _ (by simp) h0 hcl (hu x (hin x (.inl rfl))) (hu y (hin y (.inr rfl))) r1 r2 hR.drew)
   ·intro a' w' hR'
    exact hQ a' w' (hR'.restrictAt keep s.st.length [s.st.length,s.st.length + 1] (by omega) hk (by simp) (by simp; omega))
   ·intro a' w' hR'
    rw [← heq] at hQ
    exact hQ a' w' (hR'.restrictAt keep s.st.length [s.st.length + 1,s.st.length] (by omega) hk (by simp) (by simp; omega))
  split at ht
  ·rename_i hap
   simp only [Option.some.injEq] at ht
   subst ht
   by_cases hxl:(l.any (isX il) && ordX (masks ops.toList []) l) = true
   ·simp only [hxl,if_true,PC.exec] at hx
    simp only [Bool.and_eq_true] at hxl
    split at hx
    ·rename_i s1 hs1
     simp only [Option.some.injEq,Prod.mk.injEq] at hx
     obtain ⟨rfl,rfl⟩ := hx
     obtain ⟨F,hF,hr⟩ := run_of_execs l s s1 hs1
     refine hend F hF hr rfl hc.1 hc.2 fun i j x y hx hy hij hm => ?_
     have h1 := allApart_spec hap hx hy hij hm
     exact ⟨regs_of_apart h1,.inl h1⟩
    ·simp only [Option.map_eq_some_iff,Prod.mk.injEq] at hx
     obtain ⟨⟨t,d,s2⟩,hx,rfl,rfl⟩ := hx
     exact wpIn_region_any hc.1 (any_simX hT hY hl hc.2 hap hxl.2 hx hQ _ a _ (by simp) hu hR.drew)
   obtain ⟨rfl,hs⟩ := hrun l (by simp only [hxl,if_false,Bool.false_eq_true])
   obtain ⟨F,hF,hr⟩ := run_of_execs l s s' hs
   refine hend F hF hr rfl hc.1 hc.2 fun i j x y hx hy hij hm => ?_
   have h1 := allApart_spec hap hx hy hij hm
   exact ⟨regs_of_apart h1,.inl h1⟩
  ·split at ht
   ·rename_i x y hbad
    split at ht
    case h_2 =>
     simp only [Option.some.injEq] at ht
     subst ht
     simp [PC.exec] at hx
    rename_i keep h' q1 q2 hq1 hq2
    split at ht
    case isFalse =>
     simp only [Option.some.injEq] at ht
     subst ht
     simp [PC.exec] at hx
    rename_i hio
    simp only [Bool.and_eq_true,bne_iff_ne,ne_eq] at hio
    obtain ⟨hio,hxy⟩ := hio
    simp only [Option.some.injEq] at ht
    subst ht
    have hin:∀ k,k = x ∨ k = y → k < ops.size := by
     intro k hk
     simp only [badPair] at hbad
     split at hbad
     ·rename_i p hp
      simp only [Option.some.injEq] at hbad
      subst hbad
      have hmem:(x,y) ∈ l.zipIdx.flatMap fun yi => ((l.take yi.2).zipIdx.filter fun xj => xj.1.op.push && yi.1.op.push && !(((masks ops.toList []).getD yi.2 0).testBit xj.2)).map fun xj => (xj.2,yi.2) := by rw [hp]; simp
      simp only [List.mem_flatMap,List.mem_map,List.mem_filter] at hmem
      obtain ⟨⟨py,iy⟩,hy1,⟨px,ix⟩,⟨hx1,_⟩,hxy1⟩ := hmem
      simp only [Prod.mk.injEq] at hxy1
      obtain ⟨rfl,rfl⟩ := hxy1
      have h2 := List.mk_mem_zipIdx_iff_getElem?.1 hy1
      have h3 := List.mk_mem_zipIdx_iff_getElem?.1 hx1
      have h4 := (List.getElem?_eq_some_iff.1 h2).1
      have h5 := (List.getElem?_eq_some_iff.1 h3).1
      simp only [List.length_take] at h5
      rcases hk with rfl | rfl <;> omega
     ·cases hbad
    exact any2ok x y keep q1 q2 hq1 hq2 hio hxy hin hx
   split at ht
   case h_2 =>
    simp only [Option.some.injEq] at ht
    subst ht
    simp [PC.exec] at hx
   rename_i q hq
   have anyok:PC.exec G T fuel (.any q) s = some (e,s') → (Code.region id ops true).wpIn (Wr ro) 0 P Q a w := by
    intro hz
    simp only [PC.exec] at hz
    split at hz
    case h_2 => cases hz
    rename_i s1 hs1
    simp only [Option.some.injEq,Prod.mk.injEq] at hz
    obtain ⟨rfl,rfl⟩ := hz
    obtain ⟨q1,q2,q3⟩ := anyOf_spec hq
    obtain ⟨F,hF,hr,hck⟩ := run_of_anys q [] s s1 hs1
    rw [q2] at hr
    refine hend F (by rw [hF,q1]) hr rfl hc.1 hc.2 fun i j x y hx hy hij hm => ?_
    obtain ⟨b,h1,h2⟩ := q3 i y hy
    have hxd:l.getD j default = x := by simp [List.getD_eq_getElem?_getD,hx]
    by_cases hap:x.apart y = true
    ·exact ⟨regs_of_apart hap,.inl hap⟩
    ·have hj:j ∈ csOf (masks ops.toList []) l i y := by
      simp only [csOf,List.mem_filter,List.mem_range,hm,hxd,Bool.not_false,Bool.true_and]
      exact ⟨hij,by simpa using hap⟩
     obtain ⟨f,g,e1,e2,e3⟩ := hck i _ h1 j hj
     have e4:F[j]? = some (some f) := by
      rcases e3 with e3 | ⟨_,e3⟩
      ·simp at e3
      ·simpa using e3
     refine ⟨by rw [← hxd]; exact h2 j hj,.inr ⟨f,g,?_,?_,e2⟩⟩
     ·simp [List.getD_eq_getElem?_getD,e4]
     ·simp [List.getD_eq_getElem?_getD,e1]
   split at ht
   ·rename_i hfl
    split at ht
    case h_2 =>
     simp only [Option.some.injEq] at ht
     subst ht
     simp [PC.exec] at hx
    rename_i keep h'
    simp only [Option.some.injEq] at ht
    subst ht
    have altok:∀ (ps:List (Nat × Nat)),PC.exec G T fuel (altL keep (masks ops.toList []) l ops.size ps) s = some (e,s') → (Code.region id ops true).wpIn (Wr ro) 0 P Q a w := by
     intro ps
     induction ps with
     | nil => intro hx; simp [altL,PC.exec] at hx
     | cons p ps ih =>
      obtain ⟨x,y⟩ := p
      intro hx
      unfold altL at hx
      split at hx
      ·rename_i q1 q2 hq1 hq2
       split at hx
       ·rename_i hio
        simp only [Bool.and_eq_true,bne_iff_ne,ne_eq,decide_eq_true_eq] at hio
        obtain ⟨⟨⟨hio,hxy⟩,hxs⟩,hys⟩ := hio
        rw [PC.exec] at hx
        split at hx
        ·rename_i r1 hr1
         rw [hx] at hr1
         exact any2ok x y keep q1 q2 hq1 hq2 hio hxy (fun k hk => by rcases hk with rfl | rfl <;> assumption) hr1
        ·exact ih hx
       ·exact ih hx
      ·exact ih hx
    rw [PC.exec] at hx
    split at hx
    ·rename_i r1 hr1
     rw [hx] at hr1
     exact anyok hr1
    ·exact altok _ hx
   split at ht
   ·rename_i hxi
    simp only [Bool.and_eq_true] at hxi
    simp only [Option.some.injEq] at ht
    subst ht
    obtain ⟨hi0,o1,o2⟩ := ordXi_spec hxi.2
    generalize firstX il l = i0 at *
    unfold anyX at hx
    rw [PC.exec] at hx
    split at hx
    ·rename_i r1 hr1
     rw [hx] at hr1
     exact anyok hr1
    ·simp only [PC.exec] at hx
     cases hs1:anys G T (q.take i0) [] s with
     | none => simp [hs1] at hx
     | some s1 =>
      simp only [hs1,execs,execsX] at hx
      cases hs2:(l.getD i0 default).exec G T s1 with
      | some s2 => simp only [hs2,reduceCtorEq] at hx
      | none =>
       simp only [hs2] at hx
       cases hs3:(l.getD i0 default).execX G T s1 with
       | none => simp only [hs3,Option.map_none,reduceCtorEq] at hx
       | some r3 =>
        obtain ⟨t,d,s3⟩ := r3
        simp only [hs3,Option.map_some,Option.some.injEq,Prod.mk.injEq] at hx
        obtain ⟨rfl,rfl⟩ := hx
        obtain ⟨q1,q2,q3⟩ := anyOf_spec hq
        obtain ⟨F,hF,hr,hck⟩ := run_of_anys _ [] s s1 hs1
        have hFl:F.length = i0 := by rw [hF,List.length_take]; omega
        have hqt:(q.take i0).map (·.1) = l.take i0 := by rw [List.map_take,q2]
        rw [hqt] at hr
        refine wpIn_region_any hc.1 (any_simXi hT hY hl hc.2 hi0 o1 o2 hFl (fun i j hij hi hm => ?_) hr hs3 hQ _ a _ (by simp) hu hR.drew)
        have hyi:l[i]? = some (l.getD i default) := by simp [List.getD_eq_getElem?_getD,show i < l.length by omega]
        obtain ⟨b,h1,h2⟩ := q3 i _ hyi
        by_cases hap:(l.getD j default).apart (l.getD i default) = true
        ·exact ⟨regs_of_apart hap,.inl hap⟩
        ·have hj:j ∈ csOf (masks ops.toList []) l i (l.getD i default) := by
          simp only [csOf,List.mem_filter,List.mem_range,hm,Bool.not_false,Bool.true_and]
          exact ⟨hij,by simpa using hap⟩
         have h1':(q.take i0)[i]? = some (l.getD i default,b,csOf (masks ops.toList []) l i (l.getD i default)) := by
          rw [List.getElem?_take,if_pos hi]; exact h1
         obtain ⟨f,g,e1,e2,e3⟩ := hck i _ h1' j hj
         have e4:F[j]? = some (some f) := by
          rcases e3 with e3 | ⟨_,e3⟩
          ·simp at e3
          ·simpa using e3
         refine ⟨h2 j hj,.inr ⟨f,g,?_,?_,e2⟩⟩
         ·simp [List.getD_eq_getElem?_getD,e4]
         ·simp [List.getD_eq_getElem?_getD,e1]
   ·simp only [Option.some.injEq] at ht
    subst ht
    exact anyok hx
theorem recAt_inv {st:St} {k:Nat} {n:Int} (h:recAt st k = some n):∃ o,st[k]? = some o ∧ o.row = false ∧ o.sz = 1000003 ∧ o.els = [.int .i64 n] := by
 unfold recAt at h
 split at h
 case h_2 => cases h
 rename_i o ho
 split at h
 case isFalse => cases h
 rename_i hc
 simp only [Bool.and_eq_true,Bool.not_eq_true',beq_iff_eq] at hc
 split at h
 case h_2 => cases h
 rename_i n' hels
 obtain rfl := Option.some.inj h
 exact ⟨o,ho,hc.1,hc.2,hels⟩
theorem SR.recAt {base:Nat} {w:World} {g:Ghost} {st:St} (h:SR base w g st) {k:Nat} {o:Obj} (ho:st[k]? = some o) (h1:o.row = false) (h2:o.sz = 1000003):RecAt base w (g.β k) o :=
 (h.mp k o ho (by simp [Obj.isMap,h1,h2])).rec' h2
theorem Go1.recO {base:Nat} {w w':World} {g g':Ghost} {st st':St} (h:Go1 base w g st w' g' st') {k:Nat} {o:Obj} (ho:st[k]? = some o) (h1:o.row = false) (h2:o.sz = 1000003) :
  g'.β k = g.β k ∧ ∃ o',st'[k]? = some o' ∧ o'.row = false ∧ o'.sz = 1000003 := by
 obtain ⟨o',e1,e2,e3,_,_,e6⟩ := h.evo k o ho
 exact ⟨e6 h1,o',e1,e2.trans h1,e3.trans h2⟩
theorem beside_put {w:World} {l:Nat} {x:Go.Obj}:Beside w (w.putObj l x) := ⟨rfl,rfl,rfl,by rw [World.putObj_size]; exact Nat.le_refl _⟩
theorem Go1.putRec {base:Nat} {w:World} {g:Ghost} {st:St} (h:SR base w g st) {l k:Nat} {o:Obj} {r:Loop} {n:Int} {s:_} {p:Option Code} (hk:st[k]? = some o) (hrow:o.row = false) (hsz:o.sz = 1000003)
  (hl:g.β k = l) (hr:w.heap[l]? = some (.loop r)) (h0:n = 0 → s = .ready ∧ p = none) (h1:n = 1 → s = .done ∧ p = some .ret) :
  Go1 base w g st (w.putObj l (.loop { r with state := s,pending := p })) g (st.set k (PI.recO n)) := by
 subst hl
 exact h.updRec (s := s) (p := p) hk hrow hsz beside_put (fun b hb => World.putObj_heap_other hb) hr (World.putObj_heap_same (Array.getElem?_eq_some_iff.1 hr).1) h0 h1
theorem code_sim (hT:TblOK P G T):∀ (c:Code) (ro:Option Nat) (_:ro = none ∨ noRange c = true) (w0:World) (g0:Ghost) (st0:St) (dl:List Deferred) (_:YOK P G T.y base w0 g0 st0) (_:base ≤ w0.heap.size) (h:List (List Nat)) (r:PC × List (List Nat)),trC P il n h c = some r → ∀ (fuel:Nat) (s s':PS) (e:Ex),r.1.exec G T fuel s = some (e,s') →
  ∀ (a:Act) (w:World) (Q:Exit → Act → World → Prop),R G base n w0 g0 st0 dl s a w → (∀ a' w',R G base n w0 g0 st0 dl s' a' w' → Q (exOf e) a' w') → c.wpIn (Wr ro) 0 P Q a w := by
 intro c
 induction c with
 | skip =>
  intro ro hro w0 g0 st0 dl hY hb0 h r ht fuel s s' e hx a w Q hR hQ
  simp only [trC,Option.some.injEq] at ht; subst ht
  simp only [PC.exec,Option.some.injEq,Prod.mk.injEq] at hx
  obtain ⟨rfl,rfl⟩ := hx
  exact wpIn_skip (hQ a w hR)
 | exit id =>
  intro ro hro w0 g0 st0 dl hY hb0 h r ht fuel s s' e hx a w Q hR hQ
  simp only [trC,Option.some.injEq] at ht; subst ht
  simp only [PC.exec,Option.some.injEq,Prod.mk.injEq] at hx
  obtain ⟨rfl,rfl⟩ := hx
  exact wpIn_exit (hQ a w hR)
 | ret =>
  intro ro hro w0 g0 st0 dl hY hb0 h r ht fuel s s' e hx a w Q hR hQ
  simp only [trC,Option.some.injEq] at ht; subst ht
  simp only [PC.exec,Option.some.injEq,Prod.mk.injEq] at hx
  obtain ⟨rfl,rfl⟩ := hx
  exact wpIn_ret (hQ a w hR)
 | region id ops draw =>
  intro ro hro w0 g0 st0 dl hY hb0 h r ht fuel s s' e hx a w Q hR hQ
  exact list_code hT hY ht hx hR hQ
 | seq x y ihx ihy =>
  intro ro hro w0 g0 st0 dl hY hb0 h r ht fuel s s' e hx a w Q hR hQ
  unfold trC at ht
  split at ht
  case h_2 => cases ht
  rename_i px h1 hx1
  split at ht
  case h_2 => cases ht
  rename_i py h2 hy1
  simp only [Option.some.injEq] at ht; subst ht
  simp only [PC.exec] at hx
  refine wpIn_seq ?_
  split at hx
  ·rename_i s1 hs1
   exact ihx ro (hro.imp (fun h => h) fun h => by simp only [noRange,Bool.and_eq_true] at h; exact h.1) w0 g0 st0 dl hY hb0 _ _ hx1 fuel s s1 .next hs1 a w _ hR fun a' w' hR' => ihy ro (hro.imp (fun h => h) fun h => by simp only [noRange,Bool.and_eq_true] at h; exact h.2) w0 g0 st0 dl hY hb0 _ _ hy1 fuel s1 s' e hx a' w' Q hR' hQ
  ·rename_i e1 s1 hne hs1
   simp only [Option.some.injEq,Prod.mk.injEq] at hx
   obtain ⟨rfl,rfl⟩ := hx
   refine ihx ro (hro.imp (fun h => h) fun h => by simp only [noRange,Bool.and_eq_true] at h; exact h.1) w0 g0 st0 dl hY hb0 _ _ hx1 fuel s _ _ hs1 a w _ hR fun a' w' hR' => ?_
   cases e1 with
   | next => exact (hne rfl).elim
   | exit id => exact hQ a' w' hR'
   | ret => exact hQ a' w' hR'
   | panic t d => exact hQ a' w' hR'
  ·cases hx
 | cond c x y ihx ihy =>
  intro ro hro w0 g0 st0 dl hY hb0 h r ht fuel s s' e hx a w Q hR hQ
  unfold trC at ht
  split at ht
  case h_2 => cases ht
  rename_i pa hpa
  split at ht
  case h_2 => cases ht
  rename_i px h1 hx1
  split at ht
  case h_2 => cases ht
  rename_i py h2 hy1
  simp only [Option.some.injEq] at ht; subst ht
  simp only [PC.exec] at hx
  obtain ⟨g,hg⟩ := id hR
  have hc := trA_rep (G := G) hg.gl hg.fr hpa
  split at hx
  ·rename_i hb
   rw [hb] at hc
   exact wpIn_cond_true (bool_inv hc) (ihx ro (hro.imp (fun h => h) fun h => by simp only [noRange,Bool.and_eq_true] at h; exact h.1) w0 g0 st0 dl hY hb0 _ _ hx1 fuel s s' e hx a w Q hR hQ)
  ·rename_i hb
   rw [hb] at hc
   exact wpIn_cond_false (bool_inv hc) (ihy ro (hro.imp (fun h => h) fun h => by simp only [noRange,Bool.and_eq_true] at h; exact h.2) w0 g0 st0 dl hY hb0 _ _ hy1 fuel s s' e hx a w Q hR hQ)
  ·cases hx
 | block id c ih =>
  intro ro hro w0 g0 st0 dl hY hb0 h r ht fuel s s' e hx a w Q hR hQ
  unfold trC at ht
  split at ht
  case h_2 => cases ht
  rename_i px h1 hx1
  simp only [Option.some.injEq] at ht; subst ht
  simp only [PC.exec] at hx
  refine wpIn_block ?_
  split at hx
  ·rename_i id' s1 hs1
   refine ih ro (hro.imp (fun h => h) fun h => by simpa only [noRange] using h) w0 g0 st0 dl hY hb0 _ _ hx1 fuel s s1 _ hs1 a w _ hR fun a' w' hR' => ?_
   split at hx
   ·rename_i he
    simp only [Option.some.injEq,Prod.mk.injEq] at hx
    obtain ⟨rfl,rfl⟩ := hx
    simpa [exOf,Exit.inBlock,he] using hQ a' w' hR'
   ·rename_i he
    simp only [Option.some.injEq,Prod.mk.injEq] at hx
    obtain ⟨rfl,rfl⟩ := hx
    simpa [exOf,Exit.inBlock,he] using hQ a' w' hR'
  ·rename_i e1 s1 hne hs1
   simp only [Option.some.injEq,Prod.mk.injEq] at hx
   obtain ⟨rfl,rfl⟩ := hx
   refine ih ro (hro.imp (fun h => h) fun h => by simpa only [noRange] using h) w0 g0 st0 dl hY hb0 _ _ hx1 fuel s _ _ hs1 a w _ hR fun a' w' hR' => ?_
   cases e1 with
   | next => exact hQ a' w' hR'
   | exit id => exact (hne _ rfl).elim
   | ret => exact hQ a' w' hR'
   | panic t d => exact hQ a' w' hR'
  ·cases hx
 | loop c ih =>
  intro ro hro w0 g0 st0 dl hY hb0 h r ht fuel s s' e hx a w Q hR hQ
  unfold trC at ht
  split at ht
  case h_2 => cases ht
  rename_i keep h'
  split at ht
  case h_2 => cases ht
  rename_i px h1 hx1
  simp only [Option.some.injEq] at ht; subst ht
  have hk:st0.length ≤ s.st.length := by
   obtain ⟨g,hg⟩ := hR
   exact hg.go1.evo.len
  obtain ⟨cut,hcut,hx⟩:∃ cut:PS → PS,(∀ s a w,R G base n w0 g0 st0 dl s a w → R G base n w0 g0 st0 dl (cut s) a w) ∧ loopx (px.exec G T fuel) cut fuel s = some (e,s') := by
   split at hx
   ·exact ⟨keepAll keep.tail,fun _ _ _ h => h.keepAll _,by simpa only [PC.exec] using hx⟩
   ·exact ⟨PI.restrict keep s.st.length,fun _ _ _ h => h.restrict _ _ hk,by simpa only [PC.exec] using hx⟩
  refine wpIn_loop_ghost (fun m a w => ∃ s1,loopx (px.exec G T fuel) (cut) m s1 = some (e,s') ∧ R G base n w0 g0 st0 dl s1 a w) fuel ⟨s,hx,hR⟩ ?_
  rintro m a w ⟨s1,hl,hR1⟩
  cases m with
  | zero => simp [loopx] at hl
  | succ m =>
   simp only [loopx] at hl
   split at hl
   ·rename_i s2 hs2
    exact ih ro (hro.imp (fun h => h) fun h => by simpa only [noRange] using h) w0 g0 st0 dl hY hb0 _ _ hx1 fuel _ s2 .next hs2 a w _ (hcut _ _ _ hR1) fun a' w' hR' => ⟨m,Nat.lt_succ_self m,s2,hl,hR'⟩
   ·rename_i e1 s2 hne hs2
    simp only [Option.some.injEq,Prod.mk.injEq] at hl
    obtain ⟨rfl,rfl⟩ := hl
    refine ih ro (hro.imp (fun h => h) fun h => by simpa only [noRange] using h) w0 g0 st0 dl hY hb0 _ _ hx1 fuel _ _ _ hs2 a w _ (hcut _ _ _ hR1) fun a' w' hR' => ?_
    cases e1 with
    | next => exact (hne rfl).elim
    | exit id => exact hQ a' w' hR'
    | ret => exact hQ a' w' hR'
    | panic t d => exact hQ a' w' hR'
   ·cases hl
 | rangeFunc gf ps asg body iha ihb =>
  intro ro hro w0 g0 st0 dl hY hb0 h r ht fuel s s' e hx a w Q hR hQ
  unfold trC at ht
  split at ht
  case h_2 => cases ht
  rename_i pa hpa
  split at ht
  case h_2 => cases ht
  rename_i pca h1 hx1
  split at ht
  case h_2 => cases ht
  rename_i pcb h2 hy1
  split at ht
  case isFalse =>
   simp only [Option.some.injEq] at ht; subst ht
   simp [PC.exec] at hx
  rename_i hc
  simp only [Bool.and_eq_true] at hc
  obtain ⟨⟨hna,hnb⟩,hps⟩ := hc
  simp only [Option.some.injEq] at ht; subst ht
  obtain rfl:ro = none := hro.resolve_right (by simp [noRange])
  simp only [PC.exec,Option.bind_eq_some_iff,Option.map_eq_some_iff,Prod.mk.injEq] at hx
  obtain ⟨st'',hrr,e0,hex,rfl,rfl⟩ := hx
  unfold rangeRun at hrr
  split at hrr
  case h_2 => cases hrr
  rename_i f caps hclo
  split at hrr
  case isFalse => cases hrr
  rename_i hlt
  split at hrr
  case h_2 => cases hrr
  rename_i sp hsp
  simp only [Option.map_eq_some_iff,Prod.exists] at hrr
  obtain ⟨dr,st3,hrun,rfl⟩ := hrr
  obtain ⟨g,hg⟩ := hR
  have hrep := trA_rep (G := G) hg.gl hg.fr hpa
  rw [hclo] at hrep
  generalize hxv:a.eval gf = xv at hrep
  cases hrep with
  | clo _ _ us hlen hus =>
   rw [fnOf_lt hlt,firstOf_lt hlt,capsOf_lt hlt] at hxv
   obtain ⟨⟨fn,hfn,hbody,hname⟩,hcon⟩ := hT.r f sp hsp
   refine wpIn_rangeFunc fun fnid _ => ?_
   -- the two new blocks
   have hlw:w.heap.size + 1 = (w.alloc (.deferred (some []))).heap.size := by rw [World.size_alloc]
   generalize hrec:({ state := .ready,pending := none,fn := fnid,tmps := a.tmps,params := ps,assign := asg,body := body,defers := w.heap.size }:Loop) = rec
   generalize hw1:((w.alloc (.deferred (some []))).alloc (.loop rec)) = w1
   have hs1:w1.heap.size = w.heap.size + 2 := by rw [← hw1,World.size_alloc,World.size_alloc]
   have hold:∀ b,b < w.heap.size → w1.heap[b]? = w.heap[b]? := by
    intro b hb
    rw [← hw1]
    show ((w.heap.push (.deferred (some []))).push (.loop rec))[b]? = _
    rw [Array.getElem?_push,if_neg (by simp; omega),Array.getElem?_push,if_neg (by omega)]
   have hD:w1.heap[w.heap.size]? = some (.deferred (some [])) := by
    rw [← hw1]
    show ((w.heap.push (.deferred (some []))).push (.loop rec))[w.heap.size]? = _
    rw [Array.getElem?_push,if_neg (by simp),Array.getElem?_push,if_pos rfl]
   have hL:w1.heap[w.heap.size + 1]? = some (.loop rec) := by
    rw [← hw1]
    show ((w.heap.push (.deferred (some []))).push (.loop rec))[w.heap.size + 1]? = _
    rw [Array.getElem?_push,if_pos (by simp)]
   have hready:rec.state = .ready ∧ rec.pending = none := by rw [← hrec]; exact ⟨rfl,rfl⟩
   have hgo1:Go1 base w g s.st w1 { g with β := upd g.β s.st.length (w.heap.size + 1) } (s.st ++ [recO 0]) := by
    have hbes:Beside w w1 := by rw [← hw1]; exact ⟨rfl,rfl,rfl,by rw [World.size_alloc,World.size_alloc]; omega⟩
    exact hg.sr.pushRec (by omega) hbes hold hL hready
   generalize hg1:({ g with β := upd g.β s.st.length (w.heap.size + 1) }:Ghost) = g1 at hgo1
   have hβ1:g1.β s.st.length = w.heap.size + 1 := by rw [← hg1]; exact upd_same _ _ _
   have hk1:(s.st ++ [recO 0])[s.st.length]? = some (recO 0) := by simp
   have henter:(Instr.enterLoop fnid a.tmps ps asg body (Wr none).round).run P w = .ok (w.heap.size + 1,[{ target := .collected w.heap.size,args := #[] }]) w1 := by
    rw [← hw1,← hrec]
    exact run_enterLoop_outer fnid a.tmps ps asg body
   refine ⟨w.heap.size + 1,[{ target := .collected w.heap.size,args := #[] }],w1,{ target := .fn (.func f) us.toArray,args := #[.func (.yield (w.heap.size + 1)) #[] #[]] },w1,f,(Value.func (.yield (w.heap.size + 1)) #[] #[] :: us).toArray,w1,henter,?_,fun _ _ => trivial,?_,(fun e => by cases e),?_⟩
   ·have hk:∀ v,a.eval (.const v) = v := fun _ => rfl
    simp [resolve,hxv,Deferred.ofValue,hk]
   ·have hbn:¬ fn.body = none := by
     intro e; rw [e] at hbody; cases hbody
    have hn':¬ fn.name = "runtime.NumGoroutine" := by simpa using hname
    simp [invoke,callFunc,hfn,hn',hbn]
   ·refine CallsIn.mono (callsIn_wide.2 (hcon base w1 g1 (s.st ++ [recO 0]) st3 caps us dr (w.heap.size + 1) _ ?_ hrun hgo1.sr (hg.gl.mono hgo1.im) hlen (fun i d v hd hv => hgo1.rep (hus i d v hd hv)))) ?_
    ·
     intro l' w2 g2 st2 st2' ds vs d2 hgo2 hG2 hy hl2 hr2
     replace hy:(if l' = w.heap.size + 1 then roundY (PC.exec G T fuel pca) (PC.exec G T fuel pcb) s.fr ps.toList s.st.length ds st2 else none) = some (d2,st2') := hy
     split at hy
     case isFalse => cases hy
     rename_i hll
     subst hll
     unfold roundY at hy
     split at hy
     case isFalse => cases hy
     rename_i hdl
     split at hy
     case h_2 => cases hy
     rename_i sa hsa
     split at hy
     case isFalse => cases hy
     rename_i hrec0
     obtain ⟨s2,p2,hL2⟩ := (hgo2.kp _ _ hL rfl).loop
     have hpsz:ps.size = vs.length := by rw [← hl2,hdl]; simp
     refine ⟨fnid,_,asg,body,by rw [run_yield hL2 (by rw [← hrec]; simp [hpsz]),← hrec],?_⟩
     have hYw2:YOK P G T.y base w2 g2 st2 := hY.mono (hg.go1.trans (hgo1.trans hgo2))
     have hbl:base ≤ w.heap.size := hg.sr.size
     have hfold:(ps.zip vs.toArray).foldl (fun tmps x => tmps.setIfInBounds x.1 x.2) a.tmps = (ps.toList.zip vs).foldl (fun tmps p => tmps.setIfInBounds p.1 p.2) a.tmps := by
      rw [← Array.foldl_toList]; simp
     refine roundIn_of_wpIn trivial ?_
     show asg.wpIn (Wr (some (w.heap.size + 1))) 0 P _ _ w2
     refine iha (some (w.heap.size + 1)) (.inr hna) w2 g2 st2 [] hYw2 (Nat.le_trans hbl (Nat.le_trans (by omega) (hgo1.trans hgo2).below.size)) _ _ hx1 fuel _ sa .next hsa _ w2 _ ⟨g2,Go1.refl hgo2.sr,?_,hG2,⟨[],rfl,trivial⟩,?_⟩ ?_
     ·have hF2:FR w2 g2 st2 s.fr a := hg.fr.mono (hgo1.trans hgo2).im (hgo1.trans hgo2).evo
      have := setP_fr (x := []) ps.toList ds vs s.fr a.tmps (by simpa using hdl) hl2 (fun p hp => by
       have := List.all_eq_true.1 hps p hp
       have := of_decide_eq_true this
       exact Nat.lt_of_lt_of_le this hg.sz) hF2 hr2
      rw [← hfold] at this
      exact this
     ·have := foldl_set_size (ps.toList.zip vs) a.tmps
      rw [← hfold] at this
      exact Nat.le_trans hg.sz (Nat.le_of_eq this.symm)
     ·rintro a3 w3 ⟨g3,h3⟩
      have hgo13 := hgo2.trans h3.go1
      obtain ⟨o3,ho3,hro3,hso3,hels3⟩ := recAt_inv hrec0
      have hβ3:g3.β s.st.length = w.heap.size + 1 := (hgo13.recO hk1 rfl rfl).1.trans hβ1
      obtain ⟨r3,n3,hb3,_,hn3,hz3,_⟩ := h3.go1.sr.recAt ho3 hro3 hso3
      rw [hβ3] at hb3
      rw [hels3] at hn3
      have hn0:n3 = 0 := by simpa using hn3.symm
      have hready3:r3.state = .ready := (hz3 hn0).1
      refine ⟨_,run_beginRound hb3 hready3,?_⟩
      have hgo4 := Go1.putRec (n := 2) (s := .busy) (p := r3.pending) h3.go1.sr ho3 hro3 hso3 hβ3 hb3 (fun e => by cases e) (fun e => by cases e)
      have hlt3:w.heap.size + 1 < w3.heap.size := (Array.getElem?_eq_some_iff.1 hb3).1
      show body.wpIn (Wr (some (w.heap.size + 1))) 0 P _ _ (w3.putObj (w.heap.size + 1) (.loop { r3 with state := .busy,pending := r3.pending }))
      generalize hw4:w3.putObj (w.heap.size + 1) (.loop { r3 with state := .busy,pending := r3.pending }) = w4 at hgo4
      have hgo04 := hg.go1.trans (hgo1.trans (hgo13.trans hgo4))
      have hk4:(sa.st.set s.st.length (recO 2))[s.st.length]? = some (recO 2) := by
       have := (List.getElem?_eq_some_iff.1 ho3).1
       simp [this]
      -- the body's end,and what is said of the record
      have fin:∀ (sb:PS) (a5:Act) (w5:World) (nn:Int) (jump:Option Code) (b:Bool),R G base n w4 g3 (sa.st.set s.st.length (recO 2)) a3.defers sb a5 w5 → b = jump.isNone → (nn = 0 → jump = none) → (nn = 1 → jump = some .ret) →
        ∃ v w',(Instr.endRound (w.heap.size + 1) jump).run P w5 = .ok v w' ∧ ∃ v' g',(Ending.returned v:Ending) = .returned v' ∧ Go1 base w2 g2 st2 w' g' (sb.st.set s.st.length (recO nn)) ∧ RepV w' g' (sb.st.set s.st.length (recO nn)) (.bool b) v' := by
       rintro sb a5 w5 nn jump b ⟨g5,h5⟩ hb hj0 hj1
       obtain ⟨hβ5,o5,ho5,hro5,hso5⟩ := h5.go1.recO hk4 rfl rfl
       obtain ⟨r5,n5,hb5,_⟩ := h5.go1.sr.recAt ho5 hro5 hso5
       rw [hβ5,hβ3] at hb5
       have hgo6 := Go1.putRec (n := nn) (s := if jump.isNone then .ready else .done) (p := jump) h5.go1.sr ho5 hro5 hso5 (hβ5.trans hβ3) hb5
        (fun e => by rw [hj0 e]; exact ⟨rfl,rfl⟩) (fun e => by rw [hj1 e]; exact ⟨rfl,rfl⟩)
       refine ⟨_,_,run_endRound jump hb5,.bool jump.isNone,g5,rfl,h3.go1.trans (hgo4.trans (h5.go1.trans hgo6)),?_⟩
       rw [hb]; exact .bool _
      split at hy
      ·rename_i sb hsb
       simp only [Option.some.injEq,Prod.mk.injEq] at hy
       obtain ⟨rfl,rfl⟩ := hy
       refine ihb (some (w.heap.size + 1)) (.inr hnb) w4 g3 _ a3.defers (hY.mono hgo04) (Nat.le_trans hb0 hgo04.below.size) _ _ hy1 fuel _ sb .next hsb _ w4 _ ⟨g3,Go1.refl hgo4.sr,h3.fr.mono hgo4.im hgo4.evo,h3.gl.mono hgo4.im,⟨[],rfl,trivial⟩,h3.sz⟩ ?_
       exact fun a5 w5 h5 => fin sb a5 w5 0 none true h5 rfl (fun _ => rfl) (fun e => by cases e)
      ·rename_i sb hsb
       simp only [Option.some.injEq,Prod.mk.injEq] at hy
       obtain ⟨rfl,rfl⟩ := hy
       refine ihb (some (w.heap.size + 1)) (.inr hnb) w4 g3 _ a3.defers (hY.mono hgo04) (Nat.le_trans hb0 hgo04.below.size) _ _ hy1 fuel _ sb .ret hsb _ w4 _ ⟨g3,Go1.refl hgo4.sr,h3.fr.mono hgo4.im hgo4.evo,h3.gl.mono hgo4.im,⟨[],rfl,trivial⟩,h3.sz⟩ ?_
       exact fun a5 w5 h5 => fin sb a5 w5 1 (some .ret) false h5 rfl (fun e => by cases e) (fun _ => rfl)
      ·cases hy
    ·rintro e w3 ⟨v,g3,rfl,hgo3,_⟩
     obtain ⟨hβ3,_⟩ := hgo3.recO hk1 rfl rfl
     rw [hβ1] at hβ3
     have hD3:w3.heap[w.heap.size]? = some (.deferred (some [])) := (hgo3.kp _ _ hD rfl).def'
     have hbl:base ≤ w.heap.size := hg.sr.size
     unfold recEx at hex
     split at hex
     case h_2 => cases hex
     rename_i n3 hrec3
     obtain ⟨o3,ho3,hro3,hso3,hels3⟩ := recAt_inv hrec3
     obtain ⟨r3,n3',hb3,_,hn3,hz3,ho1⟩ := hgo3.sr.recAt ho3 hro3 hso3
     rw [hβ3] at hb3
     rw [hels3] at hn3
     have hn0:n3' = n3 := by simpa using hn3.symm
     subst hn0
     have hnb3:r3.state ≠ .busy := by
      split at hex
      ·rename_i e; rw [(hz3 e).1]; simp
      ·split at hex
       ·rename_i e; rw [(ho1 e).1]; simp
       ·cases hex
     have hgo4' := Go1.putRec (n := 2) (s := .exhausted) (p := r3.pending) hgo3.sr ho3 hro3 hso3 hβ3 hb3 (fun e => by cases e) (fun e => by cases e)
     have hgo4 := hgo1.trans (hgo3.trans hgo4')
     have hRn:R G base n w0 g0 st0 dl ⟨s.fr,st3.set s.st.length (recO 2)⟩ { a with defers := [{ target := .collected w.heap.size,args := #[] }] ++ a.defers } (w3.putObj (w.heap.size + 1) (.loop { r3 with state := .exhausted,pending := r3.pending })) := by
      refine ⟨g3,hg.go1.trans hgo4,hg.fr.mono hgo4.im hgo4.evo,hg.gl.mono hgo4.im,?_,hg.sz⟩
      obtain ⟨dd,hd1,hd2⟩ := hg.df
      refine ⟨{ target := .collected w.heap.size,args := #[] } :: dd,by simp [hd1],⟨w.heap.size,rfl,?_,?_,?_⟩,hd2.mono hgo4.kp⟩
      ·rw [World.putObj_heap_other (by omega)]; exact hD3
      ·have := hg.go1.below.size
       exact Array.getElem?_eq_none (by omega)
      ·intro d' hd' e
       obtain ⟨D',h1,h2⟩ := hd2.mem hd'
       rw [e] at h1
       have:w.heap.size = D' := by simpa using h1
       rw [← this,Array.getElem?_eq_none (Nat.le_refl _)] at h2
       cases h2
     refine ⟨r3.pending,_,run_endLoop hb3 hnb3,?_⟩
     split at hex
     ·rename_i e
      obtain rfl := Option.some.inj hex
      have hp := (hz3 e).2
      rw [hp]
      have := hQ _ _ hRn
      rw [hp] at this
      simpa [exOf] using this
     ·split at hex
      ·rename_i e
       obtain rfl := Option.some.inj hex
       have hp := (ho1 e).2
       rw [hp]
       have := hQ _ _ hRn
       rw [hp] at this
       exact wpIn_ret (by simpa [exOf] using this)
      ·cases hex
 | _ =>
  intro ro hro w0 g0 st0 dl hY hb0 h r ht fuel s s' e hx
  simp only [trC,Option.some.injEq] at ht; subst ht
  simp [PC.exec] at hx
theorem loadAt_var {t:TypeId} {v u:Value} {w:World} (h:(Instr.loadAt t v).run P w = .ok u w):(do loadVar t (← asAddr v):Sem Value).run P w = .ok u w := by
 cases v with
 | pointer a =>
  cases a with
  | none => simp [Instr.loadAt,Instr.sureAddr] at h
  | some a => simpa [Instr.loadAt,Instr.sureAddr,asAddr] using h
 | _ => simp [Instr.loadAt,Instr.sureAddr] at h
def resOne (tmps:Array Value):ResultVar → Sem Value
 | .tmp t => pure (tmps.getD t undef)
 | .cell a t => do loadVar t (← asAddr (tmps.getD a undef))
theorem gets_raws {s:PS}:∀ {l:List PRes} {ys:List D},gets s l = some ys → ∃ ds,raws s l = some ds ∧ imms s.st ds = some ys
 | [],ys,h => by simp [gets] at h; subst h; exact ⟨[],rfl,rfl⟩
 | r :: l,ys,h => by
  unfold gets at h
  split at h
  case h_2 => cases h
  rename_i x y hx hy
  simp only [Option.some.injEq] at h; subst h
  obtain ⟨ds,h1,h2⟩ := gets_raws hy
  cases r with
  | tmp t =>
   exact ⟨s.fr t :: ds,by simp [raws,h1],by simp only [PRes.get] at hx; simp [imms,hx,h2]⟩
  | cell t n ag =>
   simp only [PRes.get] at hx
   split at hx
   ·rename_i d hd
    exact ⟨d :: ds,by simp [raws,hd,h1],by simp [imms,hx,h2]⟩
   ·cases hx
theorem raws_run {s:PS} {a:Act} {w:World} {g:Ghost} (hS:SR base w g s.st) (hF:FR w g s.st s.fr a):∀ {rs:List ResultVar} {l:List PRes} {ds:List D},trRes P rs = some l → raws s l = some ds →
  ∃ vs:List Value,ds.length = vs.length ∧ (∀ (i:Nat) d v,ds[i]? = some d → vs[i]? = some v → RepV w g s.st d v) ∧
   (rs.mapM (resOne a.tmps)).run P w = .ok vs w
 | [],l,ds,ht,hr => by
  simp [trRes] at ht; subst ht
  simp [raws] at hr; subst hr
  exact ⟨[],rfl,fun i d v h => by simp at h,rfl⟩
 | .tmp t :: rs,l,ds,ht,hr => by
  simp only [trRes,Option.map_eq_some_iff] at ht
  obtain ⟨l',h1,rfl⟩ := ht
  simp only [raws,Option.map_eq_some_iff] at hr
  obtain ⟨ds',h2,rfl⟩ := hr
  obtain ⟨vs,e1,e2,e3⟩ := raws_run hS hF h1 h2
  refine ⟨a.tmps.getD t undef :: vs,by simp [e1],?_,?_⟩
  ·intro i d v hd hv
   cases i with
   | zero => simp only [List.getElem?_cons_zero,Option.some.injEq] at hd hv; subst hd; subst hv; exact hF t
   | succ i => simp only [List.getElem?_cons_succ] at hd hv; exact e2 i d v hd hv
  ·simp only [List.mapM_cons,resOne,Sem.run_bind,Sem.run_pure,Result.andThen_ok,e3]
 | .cell b t :: rs,l,ds,ht,hr => by
  unfold trRes at ht
  split at ht
  case h_2 => cases ht
  rename_i n ag l' hn ha h1
  simp only [Option.some.injEq] at ht; subst ht
  unfold raws at hr
  split at hr
  case h_2 => cases hr
  rename_i x y hx hy
  simp only [Option.some.injEq] at hr; subst hr
  obtain ⟨vs,e1,e2,e3⟩ := raws_run hS hF h1 hy
  obtain ⟨u,u1,u2⟩ := pload_run hS ha hn hx (hF b)
  refine ⟨u :: vs,by simp [e1],?_,?_⟩
  ·intro i d v hd hv
   cases i with
   | zero => simp only [List.getElem?_cons_zero,Option.some.injEq] at hd hv; subst hd; subst hv; exact u2
   | succ i => simp only [List.getElem?_cons_succ] at hd hv; exact e2 i d v hd hv
  ·have u3 := loadAt_var u1
   simp only [List.mapM_cons]
   rw [Sem.run_bind,show (resOne a.tmps (.cell b t)).run P w = .ok u w from u3]
   simp only [Result.andThen_ok,Sem.run_bind,Sem.run_pure,e3]
def packV:List Value → Value
 | [v] => v
 | vs => .tuple vs.toArray
theorem results_run {fn:Func} {tmps:Array Value} {w:World} {vs:List Value}
  (h:(fn.results.toList.mapM (resOne tmps)).run P w = .ok vs w) :
  (results fn tmps).run P w = .ok (packV vs) w := by
 have hres:results fn tmps = (do let vs ← fn.results.mapM (resOne tmps); pure (if h:vs.size = 1 then vs[0] else .tuple vs)) := rfl
 rw [hres,Sem.run_bind,Array.mapM_eq_mapM_toList]
 rw [Sem.run_map,h]
 simp only [Result.andThen_ok,Sem.run_pure]
 match vs with
 | [] => rfl
 | [v] => rfl
 | _ :: _ :: _ => simp [packV]
theorem pack_rep {w:World} {g:Ghost} {st:St} {ds:List D} {vs:List Value} (hl:ds.length = vs.length) (h:∀ (i:Nat) d v,ds[i]? = some d → vs[i]? = some v → RepV w g st d v) :
  RepV w g st (pack ds) (packV vs) := by
 match ds,vs,hl with
 | [],[],_ => exact .tup [] [] rfl h
 | [d],[v],_ => exact h 0 d v rfl rfl
 | _ :: _ :: _,_ :: _ :: _,hl => exact .tup _ _ hl h
theorem pack_pur {ds:List D} (h:∀ d ∈ ds,purA d = true):purR (pack ds) = true := by
 match ds with
 | [] => rfl
 | [d] =>
  have := h d (by simp)
  simp only [pack]
  cases d with
  | tup l => simp [purA,D.pure1] at this
  | _ => exact this
 | x :: y :: l =>
  simp only [pack,purR,List.all_eq_true]
  exact h
theorem leaves_ok {fn:Func} {R:Ending → World → Prop} (hb0:base ≤ w0.heap.size) {s:PS} {a:Act} {g:Ghost}:∀ (ds:List Deferred) (w:World),Go1 base w0 g0 st0 w g s.st → FR w g s.st s.fr a → DfOK w0 w ds →
  (∀ w',Go1 base w0 g0 st0 w' g s.st → FR w' g s.st s.fr a → ∃ v,(results fn a.tmps).run P w' = .ok v w' ∧ R (.returned v) w') → LeavesInM Fence.wide 0 P fn a.tmps R ds .returning w
 | [],w,hgo,hF,_,h => h w hgo hF
 | d :: ds,w,hgo,hF,⟨⟨D,h1,h2,h3,h4⟩,h5⟩,h => by
  subst h1
  refine ⟨by simp,.inl ⟨D,_,rfl,run_takeDeferred h2,?_⟩⟩
  have hDw:w0.heap.size ≤ D := by
   rcases Nat.lt_or_ge D w0.heap.size with e | e
   ·rw [Array.getElem?_eq_getElem e] at h3; cases h3
   ·exact e
  have hX := GoX.put (o' := .deferred none) hgo.sr h2 rfl ⟨_,rfl⟩ (Nat.le_trans hb0 hDw)
  refine leaves_ok hb0 ds _ (((hgo.x D).trans hX).fin (fun o ho => by rw [h3] at ho; cases ho)) (hF.mono hX.im hX.evo) ?_ h
  have:∀ (l:List Deferred),(∀ d' ∈ l,d' ≠ { target := .collected D,args := #[] }) → DfOK w0 w l → DfOK w0 (w.putObj D (.deferred none)) l := by
   intro l
   induction l with
   | nil => exact fun _ _ => trivial
   | cons d l ih =>
    rintro hne ⟨⟨D',e1,e2,e3,e4⟩,e5⟩
    refine ⟨⟨D',e1,?_,e3,e4⟩,ih (fun d' hd' => hne d' (by simp [hd'])) e5⟩
    rw [World.putObj_heap_other]
    ·exact e2
    ·rintro rfl
     exact hne d (by simp) e1
  exact this ds h4 h5
theorem fun_core (hT:TblOK P G T) {f:Nat} {hints:List (List Nat)} {F:PF} (ht:trF P il f hints = some F) (fuel:Nat):(∃ fn,P.funcs[f]? = some fn ∧ fn.body.isSome = true ∧ (fn.name == "runtime.NumGoroutine") = false) ∧
  ∀ (base:Nat) (w:World) (g:Ghost) (st st':St) (ds:List D) (vs:List Value) (d:D),YOK P G T.y base w g st → F.runI G T fuel ds st = some (d,st') → SR base w g st → GlobOK G w g → ds.length = vs.length →
   (∀ (i:Nat) d v,ds[i]? = some d → vs[i]? = some v → RepV w g st d v) → Calls P f vs.toArray w fun e w' => ∃ v g',e = .returned v ∧ Go1 base w g st w' g' st' ∧ RepV w' g' st' d v := by
 unfold trF at ht
 split at ht
 case h_2 => cases ht
 rename_i fn hfn
 split at ht
 case h_2 => cases ht
 rename_i c hc
 split at ht
 case h_2 => cases ht
 rename_i pc hrest res htc htr
 split at ht
 ·cases ht
 rename_i hname
 simp only [Option.some.injEq] at ht; subst ht
 refine ⟨⟨fn,hfn,by rw [hc]; rfl,by simpa using hname⟩,?_⟩
 intro base w g st st' ds vs d hY hsp hS hG hlen hrep
 have key:∀ (e:Ex) (s':PS),pc.exec G T fuel { fr := argF ds,st } = some (e,s') → ((raws s' res).map fun l => (pack l,s'.st)) = some (d,st') → (e = .next ∨ e = .ret) →
   Calls P f vs.toArray w fun e w' => ∃ v g',e = .returned v ∧ Go1 base w g st w' g' st' ∧ RepV w' g' st' d v := by
  intro e s' hex hget he
  refine callsIn_wide.1 (callsIn_of_wp_marks (F := Fence.wide) (n := 0) hfn hc trivial ?_)
  have hR0:R G base fn.ntmps w g st [] { fr := argF ds,st } { tmps := vs.toArray ++ Array.replicate (fn.ntmps - vs.toArray.size) undef,defers := [] } w := by
   refine ⟨g,Go1.refl hS,?_,hG,⟨[],rfl,trivial⟩,?_⟩
   ·intro s
    simp only [argF]
    rcases Nat.lt_or_ge s ds.length with h1 | h1
    ·have h2:s < vs.length := by omega
     have h3:(vs.toArray ++ Array.replicate (fn.ntmps - vs.toArray.size) undef).getD s undef = vs[s] := by
      simp [Array.getD,h2]
      intro h4
      omega
     rw [h3]
     have := hrep s ds[s] vs[s] (by simp [h1]) (by simp [h2])
     simpa [List.getD_eq_getElem?_getD,h1] using this
    ·simp [List.getD_eq_getElem?_getD,List.getElem?_eq_none h1]
     exact .junk _
   ·simp; omega
  have fin:∀ a' w',R G base fn.ntmps w g st [] s' a' w' → LeavesInM Fence.wide 0 P fn a'.tmps (fun e w' => ∃ v g',e = .returned v ∧ Go1 base w g st w' g' st' ∧ RepV w' g' st' d v) a'.defers .returning w' := by
   rintro a' w' ⟨g1,h⟩
   obtain ⟨dd,hd1,hd2⟩ := h.df
   rw [hd1,List.append_nil]
   refine leaves_ok hS.size dd w' h.go1 h.fr hd2 fun w2 hgo hF => ?_
   simp only [Option.map_eq_some_iff,Prod.mk.injEq] at hget
   obtain ⟨xs,hx1,rfl,rfl⟩ := hget
   obtain ⟨us,e1,e2,e3⟩ := raws_run hgo.sr hF htr hx1
   exact ⟨_,results_run e3,_,g1,rfl,hgo,pack_rep e1 e2⟩
  refine code_sim hT c none (.inl rfl) w g st [] hY hS.size hints (pc,hrest) htc fuel _ s' e hex _ w _ hR0 ?_
  intro a' w' hR'
  rcases he with rfl | rfl
  ·exact fin a' w' hR'
  ·exact fin a' w' hR'
 simp only [PF.runI] at hsp
 split at hsp
 ·rename_i s' hs'; exact key _ s' hs' hsp (.inl rfl)
 ·rename_i s' hs'; exact key _ s' hs' hsp (.inr rfl)
 ·cases hsp
theorem fun_simI (hT:TblOK P G T) (hy:T.y = fun _ _ _ => none) {f:Nat} {hints:List (List Nat)} {F:PF} (ht:trF P il f hints = some F) (fuel:Nat):IContract P G f (F.runI G T fuel) :=
 ⟨(fun_core hT ht fuel).1,fun base w g st st' ds vs d hsp hS hG hl hr => (fun_core hT ht fuel).2 base w g st st' ds vs d (by rw [hy]; exact YOK.none) hsp hS hG hl hr⟩
theorem fun_simY (hT:TblOK P G T) {f:Nat} {hints:List (List Nat)} {F:PF} (ht:trF P il f hints = some F) {sp:(List D → St → Option (D × St)) → List D → St → Option (D × St)}
  (h:∀ (l:Nat) y ds st r,sp y ds st = some r → ∃ fuel,F.runI G (withY T l y) fuel (.clo (10000000 + l) [] :: ds) st = some r):YIContract P G f sp := by
 refine ⟨(fun_core hT ht 0).1,fun base w g st st' ds vs d l y hY hsp hS hG hl hr => ?_⟩
 obtain ⟨fuel,hf⟩ := h l y ds st _ hsp
 have hT':TblOK P G (withY T l y) := ⟨hT.p,hT.i,hT.m,hT.r,hT.x,hT.q⟩
 refine (fun_core hT' ht fuel).2 base w g st st' _ (_ :: vs) d hY hf hS hG (by simp [hl]) ?_
 intro i d v hd hv
 cases i with
 | zero =>
  simp only [List.getElem?_cons_zero,Option.some.injEq] at hd hv
  subst hd; subst hv
  have := RepV.clo (w := w) (g := g) (st := st) (10000000 + l) [] [] rfl (fun i d v h => by simp at h)
  rw [fnOf_yield,firstOf_nil,capsOf_nil] at this
  exact this
 | succ i => exact hr i d v (by simpa using hd) (by simpa using hv)
theorem lowR_rep {w:World} {g:Ghost} {st:St} {k:Nat} {d:D} {v:Value} (h:RepV w g st d v):RepV w g (PI.cut k st) (lowR k d) v := by
 cases d with
 | tup l =>
  cases h with
  | tup _ vs h1 h2 =>
   refine .tup _ vs (by simpa using h1) fun i d v hd hv => ?_
   simp only [List.getElem?_map,Option.map_eq_some_iff] at hd
   obtain ⟨d0,h3,rfl⟩ := hd
   exact low_rep (h2 i d0 v h3 hv)
 | _ => exact low_rep h
theorem IContract.dropped {f:Nat} {sp:List D → St → Option (D × St)} (h:IContract P G f sp):IContract P G f (PI.dropped sp) := by
 refine ⟨h.1,fun base w g st st' ds vs d hd hS hG hl hr => ?_⟩
 simp only [PI.dropped,Option.map_eq_some_iff,Prod.mk.injEq,Prod.exists] at hd
 obtain ⟨d0,st1,h1,rfl,rfl⟩ := hd
 refine (h.2 base w g st st1 ds vs d0 h1 hS hG hl hr).mono ?_
 rintro e w' ⟨v,g',rfl,h2,h3⟩
 exact ⟨v,g',rfl,h2.cut (Nat.le_refl _),lowR_rep h3⟩
theorem fun_sim (hT:TblOK P G T) (hy:T.y = fun _ _ _ => none) {f:Nat} {hints:List (List Nat)} {F:PF} (ht:trF P il f hints = some F) (fuel:Nat):Contract P G f (F.run G T fuel) := by
 intro w g ds vs d hsp hG hIm hlen hrep _
 unfold trF at ht
 split at ht
 case h_2 => cases ht
 rename_i fn hfn
 split at ht
 case h_2 => cases ht
 rename_i c hc
 split at ht
 case h_2 => cases ht
 rename_i pc hrest res htc htr
 split at ht
 ·cases ht
 simp only [Option.some.injEq] at ht; subst ht
 have hS:SR w.heap.size w g [] := ⟨fun k o h => by simp at h,fun k o h => by simp at h,fun k k' o o' h => by simp at h,hIm,fun k o x h => by simp at h,Nat.le_refl _⟩
 have key:∀ (e:Ex) (s':PS),pc.exec G T fuel { fr := argF ds,st := [] } = some (e,s') → (gets s' res).map pack = some d → (e = .next ∨ e = .ret) →
   Calls P f vs.toArray w fun e w' => ∃ v g',e = .returned v ∧ RepV w' g' [] d v ∧ purR d = true ∧ ImLe w g w' g' ∧ (∀ b o,g'.Im b o → g.Im b o ∨ w.heap.size ≤ b) ∧
   (∀ b o,g'.Im b o → (w'.cell? ⟨b,o,none⟩).isSome = true) ∧ Below w.heap.size w w' := by
  intro e s' hex hget he
  refine callsIn_wide.1 (callsIn_of_wp_marks (F := Fence.wide) (n := 0) hfn hc trivial ?_)
  have hR0:R G w.heap.size fn.ntmps w g [] [] { fr := argF ds,st := [] } { tmps := vs.toArray ++ Array.replicate (fn.ntmps - vs.toArray.size) undef,defers := [] } w := by
   refine ⟨g,Go1.refl hS,?_,hG,⟨[],rfl,trivial⟩,?_⟩
   ·intro s
    simp only [argF]
    rcases Nat.lt_or_ge s ds.length with h1 | h1
    ·have h2:s < vs.length := by omega
     have h3:(vs.toArray ++ Array.replicate (fn.ntmps - vs.toArray.size) undef).getD s undef = vs[s] := by
      simp [Array.getD,h2]
      intro h4
      omega
     rw [h3]
     have := hrep s ds[s] vs[s] (by simp [h1]) (by simp [h2])
     simpa [List.getD_eq_getElem?_getD,h1] using this
    ·simp [List.getD_eq_getElem?_getD,List.getElem?_eq_none h1]
     exact .junk _
   ·simp; omega
  have fin:∀ a' w',R G w.heap.size fn.ntmps w g [] [] s' a' w' → LeavesInM Fence.wide 0 P fn a'.tmps (fun e w' => ∃ v g',e = .returned v ∧ RepV w' g' [] d v ∧ purR d = true ∧ ImLe w g w' g' ∧ (∀ b o,g'.Im b o → g.Im b o ∨ w.heap.size ≤ b) ∧
   (∀ b o,g'.Im b o → (w'.cell? ⟨b,o,none⟩).isSome = true) ∧ Below w.heap.size w w') a'.defers .returning w' := by
   rintro a' w' ⟨g1,h⟩
   obtain ⟨dd,hd1,hd2⟩ := h.df
   rw [hd1,List.append_nil]
   refine leaves_ok (Nat.le_refl _) dd w' h.go1 h.fr hd2 fun w2 hgo1 hF => ?_
   simp only [Option.map_eq_some_iff] at hget
   obtain ⟨ys,hys,rfl⟩ := hget
   obtain ⟨xs,hx1,hx2⟩ := gets_raws hys
   obtain ⟨us,e1,e2,e3⟩ := raws_run hgo1.sr hF htr hx1
   obtain ⟨g2,hgo,_,e5,e6,e7⟩ := lend_args hgo1.sr hx2
   have hall := hgo1.trans hgo
   refine ⟨_,results_run e3,_,g2,rfl,?_,pack_pur e6,hall.im,hall.new,hall.sr.im,hall.below⟩
   have h8 := pack_rep (g := g2) (w := w2) (ds := ys) (vs := us) (by omega) fun i y v hy hv => e7 i y v hy fun x hx => e2 i x v hx hv
   exact h8.purR (ImLe.refl _ _) (pack_pur e6)
  refine code_sim hT c none (.inl rfl) w g [] [] (by rw [hy]; exact YOK.none) (Nat.le_refl _) hints (pc,hrest) htc fuel _ s' e hex _ w _ hR0 ?_
  intro a' w' hR'
  rcases he with rfl | rfl
  ·exact fin a' w' hR'
  ·exact fin a' w' hR'
 simp only [PF.run] at hsp
 split at hsp
 ·rename_i s' hs'; exact key _ s' hs' hsp (.inl rfl)
 ·rename_i s' hs'; exact key _ s' hs' hsp (.inr rfl)
 ·cases hsp
theorem fun_spec (hT:TblOK P G T) (hy:T.y = fun _ _ _ => none) {f:Nat} {hints:List (List Nat)} {F:PF} (ht:trF P il f hints = some F) {sp:List D → Option D} (h:∀ ds d,sp ds = some d → ∃ fuel,F.run G T fuel ds = some d):Contract P G f sp := by
 intro w g ds vs d hd
 obtain ⟨fuel,hf⟩ := h ds d hd
 exact fun_sim hT hy ht fuel w g ds vs d hf
end
end Go.Proofs.YtlleccmnjpcogaaDoor.PI
