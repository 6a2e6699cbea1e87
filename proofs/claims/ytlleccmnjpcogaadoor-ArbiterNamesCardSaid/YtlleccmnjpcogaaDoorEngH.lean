/-
  Each operation of the model does what its pure counterpart does: parts of arrays, conversions, lengths.
  Conditions: none; these are lemmas.
-/
import Derived.Test.YtlleccmnjpcogaaDoorEngG
import Derived.Laws.IdiomStrings
set_option linter.unusedVariables false
set_option linter.unusedSimpArgs false
namespace Go.Proofs.YtlleccmnjpcogaaDoor.PI
open Go Go.RowKit
section
variable {P:Program} {base:Nat} {w:World} {g:Ghost} {st:St}
theorem psliceA_run {t elem:TypeId} {n sz:Nat} {ag:Bool} {x d:D} {lo hi:Option D} {vlo vhi:Option Value} {v:Value} (ht:P.underlying t = some (.array n elem)) (hn:szOf P elem = some sz)
  (h:psliceA n sz ag x lo hi = some d) (hr:RepV w g st x v)
  (rlo:(∀ d v,lo = some d → vlo = some v → RepV w g st d v) ∧ lo.isSome = vlo.isSome) (rhi:(∀ d v,hi = some d → vhi = some v → RepV w g st d v) ∧ hi.isSome = vhi.isSome) :
  ∃ u,(Instr.sliceAt t v vlo vhi none).run P w = .ok u w ∧ RepV w g st d u := by
 unfold psliceA at h
 split at h
 ·rename_i l h' hl hh
  split at h
  ·rename_i hle
   have hb := bounds2_run (P := P) (w := w) (g := g) (st := st) (sl := false) (cap := n) hl hh rlo.1 rhi.1 rlo.2 rhi.2 hle.1 hle.2
   have hrun:∀ a:Addr,(Instr.sliceAt t (.pointer (some a)) vlo vhi none).run P w = .ok (.slice (some (if n = l then a else a.add (l * sz))) (h' - l) (n - l)) w := by
    intro a
    simp only [Instr.sliceAt,Sem.run_bind,run_underlying ht,Result.andThen_ok,Instr.sureAddr,Sem.run_pure,hb,sizeOf_run hn]
   split at h
   ·cases hr with
    | ptr key off o ho hrow hone =>
     refine ⟨_,hrun _,?_⟩
     split at h
     ·rename_i e
      simp only [Option.some.injEq] at h; subst h
      rw [e,Nat.sub_self]
      exact .slcE _ _ _ _ fun e => by cases e
     ·simp only [Option.some.injEq] at h; subst h
      rw [if_neg (by omega),add_lit]; exact .bsl _ _ _ _ _ o _ ho hrow hone (by omega)
   ·rename_i el off
    cases hr with
    | eptr _ _ b o val hp h4 h5 =>
     refine ⟨_,hrun _,?_⟩
     split at h
     ·rename_i e
      simp only [Option.some.injEq] at h; subst h
      rw [e,Nat.sub_self]
      exact .slcE _ _ _ _ fun e => by cases e
     ·rw [if_neg (by omega)]
      simp only [Option.ite_none_right_eq_some,Option.some.injEq,Bool.and_eq_true,decide_eq_true_eq,Bool.or_eq_true,beq_iff_eq] at h
      obtain ⟨⟨⟨h1,h2⟩,h3⟩,rfl⟩ := h
      have hm:(h' - l) * sz ≤ (el.cells.drop (off + l * sz)).length := by
       rw [List.length_drop]
       have:h' * sz ≤ n * sz := Nat.mul_le_mul_right _ hle.2
       have e1:(h' - l) * sz = h' * sz - l * sz := Nat.sub_mul _ _ _
       omega
      obtain ⟨c1,c2,c3⟩ := chunk_spec h2 h3 (h' - l) (el.cells.drop (off + l * sz)) hm (fun x hx => by
       obtain ⟨i,hi⟩ := List.mem_iff_getElem?.1 (List.mem_of_mem_drop hx)
       exact pure1_cells (hp i x hi))
      rw [add_lit]
      have goal := RepV.slc_mk (w := w) (g := g) (st := st) (els := chunk sz ag (el.cells.drop (off + l * sz)) (h' - l)) (t := h' == n) (b := b) (off := o + off + l * sz) (cap := n - l) h2 c2 (by rw [c1]; omega) (fun e => by rw [c1]; simp at e; omega) (by
       intro i j d hd
       obtain ⟨h6,h7,h8⟩ := c3 i j d hd
       rw [List.getElem?_drop] at h6
       refine ⟨hp _ _ h6,?_,val _,?_,h5 _ _ h6⟩
       ·have := (h4 _ _ h6).1
        rwa [show o + (off + l * sz + (i * sz + j)) = o + off + l * sz + i * sz + j by omega] at this
       ·have := (h4 _ _ h6).2
        rwa [show o + (off + l * sz + (i * sz + j)) = o + off + l * sz + i * sz + j by omega] at this)
      rw [c1] at goal
      exact goal
   ·cases h
  ·cases h
 ·cases h
theorem part_run {t:TypeId} {n off:Nat} {ag:Bool} {ds:List D} {vs:List Value} (ha:agOf P t = some ag) (hn:szOf P t = some n) (hag:ag = true ∨ n = 1) (hl:ds.length = vs.length) (hle:off + n ≤ ds.length)
  (h:∀ (i:Nat) d v,ds[i]? = some d → vs[i]? = some v → RepV w g st d v):∃ u,(part t vs.toArray off).run P w = .ok u w ∧ RepV w g st (.mk ag ((ds.drop off).take n)) u := by
 cases ag with
 | true =>
  refine ⟨.agg ((vs.drop off).take n).toArray,?_,?_⟩
  ·have:vs.toArray.extract off (off + n) = ((vs.drop off).take n).toArray := by
    apply Array.ext'
    simp [List.take_drop,Nat.add_comm]
   simp only [part,Sem.run_bind,isAgg_run ha,Result.andThen_ok,if_true,sizeOf_run hn,this,Sem.run_pure]
  ·refine .agg _ _ (by simp [hl]) ?_
   intro i d v hd hv
   obtain ⟨h1,h2⟩ := drop_take_get hd
   rw [List.getElem?_take,if_pos h2,List.getElem?_drop] at hv
   exact h _ _ _ h1 hv
 | false =>
  obtain rfl:n = 1 := hag.resolve_left (by simp)
  have h1:off < ds.length := by omega
  have h2:off < vs.length := by omega
  refine ⟨vs[off],?_,?_⟩
  ·simp [part,isAgg_run ha,h2]
  ·have e:D.mk false ((ds.drop off).take 1) = ds[off] := by
    simp [D.mk,List.take_one,List.head?_drop,h1]
   rw [e]
   exact h off _ _ (List.getElem?_eq_getElem h1) (List.getElem?_eq_getElem h2)
theorem pfldv_run {xt:TypeId} {fields:Array Field} {f:Nat} {fd:Field} {n:Nat} {ag:Bool} {x d:D} {v:Value} (hs:P.underlying xt = some (.struct fields)) (hf:fields[f]? = some fd) (ha:agOf P fd.type = some ag) (hn:szOf P fd.type = some n)
  (h:pfldv fd.offset n ag x = some d) (hr:RepV w g st x v):∃ u,(Instr.field xt v f).run P w = .ok u w ∧ RepV w g st d u := by
 unfold pfldv at h
 split at h
 ·simp only [Option.ite_none_right_eq_some,Option.some.injEq,Bool.and_eq_true,decide_eq_true_eq,Bool.or_eq_true,beq_iff_eq] at h
  obtain ⟨⟨h1,h2⟩,rfl⟩ := h
  cases hr with
  | agg ds vs h3 h4 =>
   obtain ⟨u,h5,h6⟩ := part_run (P := P) (w := w) (g := g) (st := st) ha hn h2 h3 h1 h4
   exact ⟨u,by simp [Instr.field,run_underlying hs,hf,asAgg,h5],h6⟩
 ·cases h
theorem pidxV_run {xt elem:TypeId} {len n:Nat} {ag:Bool} {x i d:D} {v vi:Value} (hs:P.underlying xt = some (.array len elem)) (ha:agOf P elem = some ag) (hn:szOf P elem = some n)
  (h:pidxV len n ag x i = some d) (hr:RepV w g st x v) (hi:RepV w g st i vi):∃ u,(Instr.index xt v vi).run P w = .ok u w ∧ RepV w g st d u := by
 unfold pidxV at h
 split at h
 ·rename_i j hj
  simp only [Option.ite_none_right_eq_some] at h
  obtain ⟨hlt,h⟩ := h
  obtain ⟨k,rfl⟩ := natOf_inv hj hi
  unfold pfldv at h
  split at h
  ·simp only [Option.ite_none_right_eq_some,Option.some.injEq,Bool.and_eq_true,decide_eq_true_eq,Bool.or_eq_true,beq_iff_eq] at h
   obtain ⟨⟨h1,h2⟩,rfl⟩ := h
   cases hr with
   | agg ds vs h3 h4 =>
    obtain ⟨u,h5,h6⟩ := part_run (P := P) (w := w) (g := g) (st := st) ha hn h2 h3 h1 h4
    refine ⟨u,?_,h6⟩
    have:(0:Int) ≤ (j:Int) ∧ (j:Int) < (len:Int) := by omega
    simp [Instr.index,asIntOf,run_underlying hs,this,sizeOf_run hn,h5]
    intro; omega
  ·cases h
 ·cases h
theorem pidx_run {xt:TypeId} {x i d:D} {v vi:Value} (hs:P.underlying xt = some .string) (h:pidx x i = some d) (hr:RepV w g st x v) (hi:RepV w g st i vi):∃ u,(Instr.index xt v vi).run P w = .ok u w ∧ RepV w g st d u := by
 unfold pidx at h
 split at h
 ·rename_i s j hj
  split at h
  ·rename_i b hb
   simp only [Option.some.injEq] at h; subst h
   obtain ⟨k,rfl⟩ := natOf_inv hj hi
   obtain rfl := str_inv hr
   refine ⟨.int .u8 b.toNat,?_,.int _ _⟩
   have h1:j < s.length := (List.getElem?_eq_some_iff.1 hb).1
   have h2:(ByteArray.mk s.toArray)[j]? = some b := by
    have:j < (ByteArray.mk s.toArray).size := by simpa [ByteArray.size] using h1
    rw [getElem?_pos (ByteArray.mk s.toArray) j this]
    have e := List.getElem?_eq_some_iff.1 hb
    obtain ⟨_,e⟩ := e
    rw [← e]
    rfl
   simp [Instr.index,asIntOf,run_underlying hs,h2]
  ·cases h
 ·cases h
theorem sLen_run {t:TypeId} {x:D} {n:Nat} {v:Value} (ht:P.underlying t = some .string ∨ ∃ e,P.underlying t = some (.slice e)) (hst:P.underlying t = some .string ↔ ∃ s,x = .str s) (h:sLen st x = some n) (hr:RepV w g st x v) (ty:TypeId) :
  (Builtin.len_ #[t] ty #[v]).run P w = .ok (.int .i64 (n:Int)) w := by
 have sl:∀ a l c,v = .slice a l c → (∀ s,x ≠ .str s) → (Builtin.len_ #[t] ty #[v]).run P w = .ok (.int .i64 (l:Int)) w := by
  intro a l c hv hne
  subst hv
  have hns:¬ P.underlying t = some .string := by
   intro e
   obtain ⟨s,hs⟩ := hst.1 e
   exact hne s hs
  obtain ⟨e,he⟩ := ht.resolve_left hns
  simp [Builtin.len_,run_underlying he,goInt]
 unfold sLen at h
 split at h
 ·simp only [Option.some.injEq] at h; subst h
  obtain ⟨⟨a,cap,hv,_⟩,_,_⟩ := slc_els hr
  exact sl _ _ _ hv (by intro s hs; cases hs)
 ·split at h
  ·simp only [Option.some.injEq] at h; subst h
   rename_i hl
   obtain ⟨_,_,_,_,hv,_⟩ := live_row hl hr
   exact sl _ _ _ hv (by intro s hs; cases hs)
  ·cases h
 ·simp only [Option.some.injEq] at h; subst h
  cases hr with
  | bsl => exact sl _ _ _ rfl (by intro s hs; cases hs)
 ·simp only [Option.some.injEq] at h; subst h
  obtain rfl := str_inv hr
  have hu := hst.2 ⟨_,rfl⟩
  rename_i s
  have e:ByteArray.size ⟨s.toArray⟩ = s.length := by simp [ByteArray.size]
  simp [Builtin.len_,run_underlying hu,goInt,e]
 ·cases h
theorem byteOf_inv {d:D} {b:UInt8} {v:Value} (h:byteOf d = some b) (hr:RepV w g st d v):v = .int .u8 (b.toNat:Int) := by
 unfold byteOf at h
 split at h
 ·simp only [Option.ite_none_right_eq_some,Option.some.injEq] at h
  obtain ⟨⟨h1,h2⟩,rfl⟩ := h
  obtain rfl := int_inv hr
  congr 1
  rw [UInt8.toNat_ofNat']
  omega
 ·cases h
theorem bytesOf_get:∀ {ds:List D} {bs:List UInt8},bytesOf ds = some bs → bs.length = ds.length ∧ ∀ (i:Nat) b,bs[i]? = some b → ∃ d,ds[i]? = some d ∧ byteOf d = some b
 | [],bs,h => by simp [bytesOf] at h; subst h; exact ⟨rfl,fun i b h => by simp at h⟩
 | d :: l,bs,h => by
  unfold bytesOf at h
  split at h
  ·rename_i x y hx hy
   simp only [Option.some.injEq] at h; subst h
   obtain ⟨h1,h2⟩ := bytesOf_get hy
   refine ⟨by simp [h1],fun i b hb => ?_⟩
   cases i with
   | zero => simp at hb; subst hb; exact ⟨d,rfl,hx⟩
   | succ i => simp at hb; exact h2 i b hb
  ·cases h
theorem els_str_run {src dst e:TypeId} {els:List D} {sz:Nat} {bs:List UInt8} {v:Value} (hs:P.underlying src = some (.slice e)) (he:P.underlying e = some (.int .u8)) (hd:P.underlying dst = some .string)
  (hE:Els w g st v sz els) (hsz:sz = 1 ∨ els = []) (hb:bytesOf els = some bs):(convert src dst v).run P w = .ok (.string ⟨bs.toArray⟩) w := by
 obtain ⟨⟨a,cap,rfl,hsh⟩,hpure,hlen⟩ := hE
 obtain ⟨h1,h2⟩ := bytesOf_get hb
 by_cases hn:els = []
 ·subst hn
  have:bs = [] := List.eq_nil_of_length_eq_zero h1
  subst this
  rw [run_convert_bytes_string w src dst e a _ cap hs he hd]
  cases a with
  | none => simp [Conv.bytesToString]; rfl
  | some a => simp [Conv.bytesToString,loadCells,loadCellsFrom]; rfl
 ·obtain ⟨b,off,rfl,h0,hc⟩ := hsh hn
  obtain rfl:sz = 1 := hsz.resolve_right hn
  rw [← h1]
  refine run_convert_bytes_back w src dst e ⟨b,off,none⟩ cap bs hs he hd ?_
  intro j hj
  obtain ⟨d,hd1,hd2⟩ := h2 j bs[j] (List.getElem?_eq_getElem hj)
  have hdc:d.cells = [d] := by
   unfold byteOf at hd2
   split at hd2
   ·rfl
   ·cases hd2
  obtain ⟨u,h3,h4,_⟩ := hc j 0 d (cellAt_mk hd1 (by rw [hdc]; rfl))
  rw [add_lit]
  rw [byteOf_inv hd2 h4] at h3
  simpa using h3
end
end Go.Proofs.YtlleccmnjpcogaaDoor.PI
