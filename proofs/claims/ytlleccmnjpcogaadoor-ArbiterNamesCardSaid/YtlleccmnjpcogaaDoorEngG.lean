/-
  Each operation of the model does what its pure counterpart does: places, slices, parts, conversions.
  Conditions: none; these are lemmas.
-/
import Derived.Test.YtlleccmnjpcogaaDoorEngF
import Derived.Lib.Strings
set_option linter.unusedVariables false
set_option linter.unusedSimpArgs false
namespace Go.Proofs.YtlleccmnjpcogaaDoor.PI
open Go Go.RowKit
section
variable {P:Program} {base:Nat} {w:World} {g:Ghost} {st:St}
theorem live_inv {key tot i o:Nat} {v:Value} (hl:live st key tot = true) (hr:RepV w g st (.rptr key tot i o) v) :
  ∃ ob,st[key]? = some ob ∧ ob.row = true ∧ tot = ob.els.length ∧ v = .pointer (some ⟨g.β key,i * ob.sz + o,none⟩) := by
 cases hr with
 | rptr _ _ _ _ ob _ h0 h1 h2 h3 h4 =>
  have:tot = ob.els.length := by
   simp only [live,h1,Bool.and_eq_true,beq_iff_eq] at hl
   exact hl.2.symm
  exact ⟨ob,h1,h2,this,h4 this⟩
theorem live_row {key tot off len:Nat} {v:Value} (hl:live st key tot = true) (hr:RepV w g st (.row key tot off len) v) :
  ∃ ob,st[key]? = some ob ∧ ob.row = true ∧ tot = ob.els.length ∧ v = .slice (some ⟨g.β key,off * ob.sz,none⟩) len (g.γ key - off) ∧ off + len ≤ tot := by
 cases hr with
 | row _ _ _ _ ob _ h0 h1 h2 h3 h4 =>
  have:tot = ob.els.length := by
   simp only [live,h1,Bool.and_eq_true,beq_iff_eq] at hl
   exact hl.2.symm
  exact ⟨ob,h1,h2,this,(h4 this).1,(h4 this).2⟩
theorem pfld_rep {off:Nat} {p d:D} {v:Value} (h:pfld st off p = some d) (hr:RepV w g st p v):∃ b o,v = .pointer (some ⟨b,o,none⟩) ∧ RepV w g st d (.pointer (some ⟨b,o + off,none⟩)) := by
 unfold pfld at h
 split at h
 ·simp at h; subst h
  cases hr with
  | ptr key o' o ho hrow hone => exact ⟨_,_,rfl,.ptr _ _ o ho hrow hone⟩
 ·split at h
  ·rename_i key tot i o hl
   simp at h; subst h
   obtain ⟨ob,h1,h2,h3,rfl⟩ := live_inv hl hr
   refine ⟨_,_,rfl,.rptr _ _ _ _ ob _ rfl h1 h2 (by omega) fun _ => ?_⟩
   simp only [Nat.add_assoc]
  ·cases h
 ·simp at h; subst h
  cases hr with
  | eptr el off' b o val h0 h1 h2 => exact ⟨_,_,rfl,by rw [Nat.add_assoc]; exact .eptr _ _ b o val h0 h1 h2⟩
 ·cases h
theorem fieldAt_run {s:TypeId} {fields:Array Field} {f:Nat} {fd:Field} {n:Nat} {p d:D} {v:Value} (hs:P.underlying s = some (.struct fields)) (hf:fields[f]? = some fd) (hn:szOf P fd.type = some n) (h0:n ≠ 0)
  (h:pfld st fd.offset p = some d) (hr:RepV w g st p v):∃ u,(Instr.fieldAt s v f).run P w = .ok u w ∧ RepV w g st d u := by
 obtain ⟨b,o,rfl,h1⟩ := pfld_rep h hr
 refine ⟨_,?_,h1⟩
 simp [Instr.fieldAt,run_underlying hs,hf,Instr.sureAddr,fieldPlace,sizeOf_run hn,h0,add_lit]
theorem indexAt_arr_run {t elem:TypeId} {len n:Nat} {p i d:D} {v vi:Value} (ht:P.underlying t = some (.array len elem)) (hn:szOf P elem = some n)
  (h:pidxA st len n p i = some d) (hr:RepV w g st p v) (hi:RepV w g st i vi):∃ u,(Instr.indexAt t v vi).run P w = .ok u w ∧ RepV w g st d u := by
 unfold pidxA at h
 cases hj:natOf i with
 | none => simp [hj] at h
 | some j =>
  simp only [hj,Option.ite_none_right_eq_some] at h
  obtain ⟨hlt,h⟩ := h
  obtain ⟨k,rfl⟩ := natOf_inv hj hi
  obtain ⟨b,o,rfl,h1⟩ := pfld_rep h hr
  refine ⟨_,?_,h1⟩
  simp only [Instr.indexAt,Sem.run_bind,asIntOf,Sem.run_pure,run_underlying ht,Result.andThen_ok,Instr.sureAddr]
  have:(0:Int) ≤ (j:Int) ∧ (j:Int) < (len:Int) := by omega
  simp [this,sizeOf_run hn,add_lit]
theorem indexAt_sl_run {t elem:TypeId} {n:Nat} {x i d:D} {v vi:Value} (ht:P.underlying t = some (.slice elem)) (hn:szOf P elem = some n)
  (h:pidxS st n x i = some d) (hr:RepV w g st x v) (hi:RepV w g st i vi):∃ u,(Instr.indexAt t v vi).run P w = .ok u w ∧ RepV w g st d u := by
 unfold pidxS at h
 cases hj:natOf i with
 | none => simp [hj] at h
 | some j =>
  simp only [hj] at h
  obtain ⟨k,rfl⟩ := natOf_inv hj hi
  have go:∀ b o len cap,v = .slice (some ⟨b,o,none⟩) len cap → j < len → (Instr.indexAt t v (.int k (j:Int))).run P w = .ok (.pointer (some ⟨b,o + j * n,none⟩)) w := by
   intro b o len cap hv hlt
   subst hv
   simp only [Instr.indexAt,Sem.run_bind,asIntOf,Sem.run_pure,run_underlying ht,Result.andThen_ok]
   have:(0:Int) ≤ (j:Int) ∧ (j:Int) < (len:Int) := by omega
   simp [this,sizeOf_run hn,add_lit]
  split at h
  ·rename_i sz els tg
   split at h
   ·rename_i el hel
    simp only [beq_iff_eq,Option.ite_none_right_eq_some,Option.some.injEq] at h
    obtain ⟨rfl,rfl⟩ := h
    cases hr with
    | slcE => simp at hel
    | slc _ _ b off cap _ val h1 h2 h3 h3' h4 h5 h6 h7 =>
     refine ⟨_,go _ _ _ _ rfl (List.getElem?_eq_some_iff.1 hel).1,?_⟩
     have := RepV.eptr (w := w) (g := g) (st := st) el 0 b (off + j * sz) (val j) (fun q d hd => h3' j q d (cellAt_mk hel hd)) (fun q d hd => h6 j q d (cellAt_mk hel hd)) (fun q d hd => h7 j q d (cellAt_mk hel hd))
     simpa using this
   ·cases h
  ·rename_i key tot off len
   split at h
   ·rename_i o ho
    split at h
    ·rename_i hc
     simp only [Bool.and_eq_true,beq_iff_eq,decide_eq_true_eq] at hc
     simp only [Option.some.injEq] at h
     subst h
     obtain ⟨⟨⟨hrow,hsz⟩,htot⟩,hlt⟩ := hc
     obtain ⟨ob,h1,h2,h3,rfl,h5⟩ := live_row (by simp [live,ho,hrow,htot]) hr
     obtain rfl:ob = o := Option.some.inj (h1.symm.trans ho)
     refine ⟨_,go _ _ _ _ rfl hlt,.rptr _ _ _ _ ob _ rfl ho h2 (by omega) fun _ => ?_⟩
     rw [← hsz,Nat.add_mul,Nat.add_zero]
    ·cases h
   ·cases h
  ·rename_i key off m sz' ag
   simp only [Option.ite_none_right_eq_some,Option.some.injEq] at h
   obtain ⟨⟨hlt,rfl⟩,rfl⟩ := h
   cases hr with
   | bsl _ _ _ _ _ o cap ho hrow hone _ => exact ⟨_,go _ _ _ _ rfl hlt,.ptr _ _ o ho hrow hone⟩
  ·cases h
theorem bound_run {i:D} {n y:Nat} {vi:Value} {code:BoundsCode} (h:natOf i = some n) (hi:RepV w g st i vi) (hle:n ≤ y):(Instr.sliceBound vi y code).run P w = .ok n w := by
 obtain ⟨k,rfl⟩ := natOf_inv h hi
 have:(0:Int) ≤ (n:Int) ∧ (n:Int) ≤ (y:Int) := by omega
 simp [Instr.sliceBound,asIntOf,this]
theorem bounds2_run {lo hi:Option D} {vlo vhi:Option Value} {l h len cap:Nat} {sl:Bool} (hl:bnd lo 0 = some l) (hh:bnd hi len = some h)
  (rlo:∀ d v,lo = some d → vlo = some v → RepV w g st d v) (rhi:∀ d v,hi = some d → vhi = some v → RepV w g st d v) (slo:lo.isSome = vlo.isSome) (shi:hi.isSome = vhi.isSome)
  (hle:l ≤ h) (hcap:h ≤ cap):(Instr.sliceBounds sl len cap vlo vhi none).run P w = .ok (l,h,cap) w := by
 have e2:∀ v d,vlo = some v → lo = some d → (Instr.sliceBound v h .sliceB).run P w = .ok l w := by
  intro v d hv hd
  subst hd
  simp only [bnd] at hl
  exact bound_run hl (rlo d v rfl hv) hle
 have e1:∀ v d code,vhi = some v → hi = some d → (Instr.sliceBound v cap code).run P w = .ok h w := by
  intro v d code hv hd
  subst hd
  simp only [bnd] at hh
  exact bound_run hh (rhi d v rfl hv) hcap
 cases hi <;> cases vhi <;> simp only [Option.isSome_none,Option.isSome_some,reduceCtorEq] at shi <;> cases lo <;> cases vlo <;> simp only [Option.isSome_none,Option.isSome_some,reduceCtorEq] at slo <;>
  simp only [bnd,Option.some.injEq] at hl hh
 ·subst hl; subst hh; simp [Instr.sliceBounds]
 ·subst hh; simp [Instr.sliceBounds,e2 _ _ rfl rfl]
 ·subst hl; simp [Instr.sliceBounds,e1 _ _ _ rfl rfl]
 ·simp [Instr.sliceBounds,e1 _ _ _ rfl rfl,e2 _ _ rfl rfl]
theorem bounds3_run {lo:Option D} {vlo:Option Value} {dh dm:D} {vh vm:Value} {l h len cap:Nat} {sl:Bool} (hl:bnd lo 0 = some l) (hh:natOf dh = some h) (hm:natOf dm = some h)
  (rlo:∀ d v,lo = some d → vlo = some v → RepV w g st d v) (rhi:RepV w g st dh vh) (rmx:RepV w g st dm vm) (slo:lo.isSome = vlo.isSome)
  (hle:l ≤ h) (hcap:h ≤ cap):(Instr.sliceBounds sl len cap vlo (some vh) (some vm)).run P w = .ok (l,h,h) w := by
 have e2:∀ v d,vlo = some v → lo = some d → (Instr.sliceBound v h .slice3C).run P w = .ok l w := by
  intro v d hv hd
  subst hd
  simp only [bnd] at hl
  exact bound_run hl (rlo d v rfl hv) hle
 have e3:∀ code,(Instr.sliceBound vm cap code).run P w = .ok h w := fun code => bound_run hm rmx hcap
 have e4:∀ code,(Instr.sliceBound vh h code).run P w = .ok h w := fun code => bound_run hh rhi (Nat.le_refl _)
 cases lo <;> cases vlo <;> simp only [Option.isSome_none,Option.isSome_some,reduceCtorEq] at slo <;> simp only [bnd,Option.some.injEq] at hl
 ·subst hl; simp [Instr.sliceBounds,e3,e4]
 ·simp [Instr.sliceBounds,e3,e4,e2 _ _ rfl rfl]
theorem cellAt_sub {els:List D} {l h i j:Nat} {d:D} (hd:cellAt ((els.take h).drop l) i j = some d):cellAt els (l + i) j = some d ∧ l + i < h := by
 obtain ⟨e,he,hd⟩ := cellAt_some hd
 rw [List.getElem?_drop,List.getElem?_take] at he
 split at he
 ·rename_i hi; exact ⟨cellAt_mk he hd,hi⟩
 ·cases he
theorem slc_sub {sz:Nat} {els:List D} {tg tg':Bool} {a:Option Addr} {cap l h m:Nat} (hr:RepV w g st (.slc sz els tg) (.slice a els.length cap)) (hle:l ≤ h) (hh:h ≤ els.length) (hm:h ≤ m) (ht:tg' = true → m = h) :
  RepV w g st (.slc sz ((els.take h).drop l) tg') (.slice (if m = l then a else a.map (·.add (l * sz))) (h - l) (m - l)) := by
 have hlen:((els.take h).drop l).length = h - l := by rw [List.length_drop,List.length_take]; omega
 rw [← hlen]
 by_cases hz:(els.take h).drop l = []
 ·rw [hz]
  refine .slcE _ _ _ _ fun e => ?_
  have := ht e
  rw [hz] at hlen
  simp at hlen
  omega
 ·have hlt:l < h := by
   rcases Nat.lt_or_ge l h with h1 | h1
   ·exact h1
   ·exfalso; apply hz; apply List.eq_nil_of_length_eq_zero; omega
  rw [if_neg (by omega)]
  cases hr with
  | slcE => simp at hz
  | slc _ _ b off cap _ val h1 h2 h3 h3' h4 h5 h6 h7 =>
   simp only [Option.map_some,add_lit]
   refine .slc _ _ _ _ _ _ (fun i j => val (l + i) j) hz h2 ?_ ?_ (by omega) (fun e => by have := ht e; omega) ?_ ?_
   ·intro e he
    exact h3 e (List.mem_of_mem_take (List.mem_of_mem_drop he))
   ·intro i j d hd; exact h3' _ _ _ (cellAt_sub hd).1
   ·intro i j d hd
    have := h6 _ _ _ (cellAt_sub hd).1
    rw [Nat.add_mul,← Nat.add_assoc] at this
    exact this
   ·intro i j d hd; exact h7 _ _ _ (cellAt_sub hd).1
theorem opt_rep {lo:Option D} {x:Option Operand} {pa:Option PA} {ρ:PA → D} {ev:Operand → Value} (h:trO x = some pa) (hlo:lo = pa.map ρ) (hev:∀ x pa,trA x = some pa → RepV w g st (ρ pa) (ev x)) :
  (∀ d v,lo = some d → x.map ev = some v → RepV w g st d v) ∧ lo.isSome = (x.map ev).isSome := by
 cases x with
 | none => simp [trO] at h; subst h; subst hlo; simp
 | some x =>
  simp only [trO,Option.map_eq_some_iff] at h
  obtain ⟨a,ha,rfl⟩ := h
  subst hlo
  refine ⟨?_,rfl⟩
  intro d v h1 h2
  simp at h1 h2
  subst h1; subst h2
  exact hev x a ha
theorem pslice_run (hS:SR base w g st) {t:TypeId} {sz:Nat} {x d:D} {lo hi mx:Option D} {vlo vhi vmx:Option Value} {v:Value}
  (ht:(sz = 0 ∧ P.underlying t = some .string) ∨ (sz ≠ 0 ∧ ∃ e,P.underlying t = some (.slice e) ∧ szOf P e = some sz))
  (h:pslice st sz x lo hi mx = some d) (hr:RepV w g st x v)
  (rlo:(∀ d v,lo = some d → vlo = some v → RepV w g st d v) ∧ lo.isSome = vlo.isSome) (rhi:(∀ d v,hi = some d → vhi = some v → RepV w g st d v) ∧ hi.isSome = vhi.isSome)
  (rmx:(∀ d v,mx = some d → vmx = some v → RepV w g st d v) ∧ mx.isSome = vmx.isSome) :
  ∃ u,(Instr.sliceAt t v vlo vhi vmx).run P w = .ok u w ∧ RepV w g st d u := by
 unfold pslice at h
 split at h
 ·rename_i s
  obtain rfl := str_inv hr
  split at h
  ·rename_i l h' hl hh
   simp only [Option.ite_none_right_eq_some,Option.some.injEq] at h
   obtain ⟨⟨h0,h1,h2⟩,rfl⟩ := h
   have hu:P.underlying t = some .string := by
    rcases ht with ⟨_,h⟩ | ⟨h,_⟩
    ·exact h
    ·exact absurd h0 h
   have hm:vmx = none := by
    cases vmx with
    | none => rfl
    | some _ => simp at rmx
   subst hm
   have hb := bounds2_run (P := P) (w := w) (g := g) (st := st) (sl := false) hl hh rlo.1 rhi.1 rlo.2 rhi.2 h1 h2
   refine ⟨.string ((ByteArray.mk s.toArray).extract l h'),?_,str_rep _ _ ?_⟩
   ·simp only [Instr.sliceAt,Sem.run_bind,run_underlying hu,Result.andThen_ok,Instr.slice,Option.isSome_none,Bool.false_eq_true,if_false]
    have e:ByteArray.size ⟨s.toArray⟩ = s.length := by simp [ByteArray.size]
    rw [e,hb]
    rfl
   ·rw [Lib.extract_data]
    simp [List.drop_take]
  ·cases h
 ·rename_i sz' els tg
  split at h
  case isFalse => cases h
  rename_i hsz
  simp only [Bool.and_eq_true,bne_iff_ne,ne_eq] at hsz
  obtain ⟨hsz,hs0⟩ := hsz
  obtain ⟨_,e,hu,hn⟩ := ht.resolve_left (fun h => hs0 h.1)
  have hv:∃ a cap,v = .slice a els.length cap := by
   cases hr with
   | slcE _ _ a cap h => exact ⟨a,cap,rfl⟩
   | slc _ _ b off cap _ val h1 => exact ⟨_,cap,rfl⟩
  obtain ⟨a,cap,rfl⟩ := hv
  have hcapl:els.length ≤ cap := by
   cases hr with
   | slcE _ _ a cap h => simp
   | slc _ _ b off cap _ val h1 h2 h3 h3' h4 => exact h4
  split at h
  ·rename_i l h' hl hh
   have final:∀ (tg':Bool) (m:Nat),l ≤ h' → h' ≤ els.length → h' ≤ m → (tg' = true → m = h') → RepV w g st (.slc sz' ((els.take h').drop l) tg') (.slice (if m = l then a else a.map (·.add (l * sz))) (h' - l) (m - l)) := by
    intro tg' m h1 h2 h3 h4
    have := slc_sub (tg' := tg') hr h1 h2 h3 h4
    simp only [Bool.or_eq_true,beq_iff_eq,List.isEmpty_iff] at hsz
    rcases hsz with rfl | rfl
    ·exact this
    ·have hz:((([]:List D).take h').drop l) = [] := by simp
     rw [hz] at this ⊢
     simp at h2
     have e1:h' - l = 0 := by omega
     rw [e1] at this ⊢
     exact .slcE _ _ _ _ fun e => by have := h4 e; omega
   split at h
   ·simp only [Option.ite_none_right_eq_some,Option.some.injEq] at h
    obtain ⟨⟨h1,h2⟩,rfl⟩ := h
    have hm:vmx = none := by
     cases vmx with
     | none => rfl
     | some _ => simp at rmx
    subst hm
    have hb := bounds2_run (P := P) (w := w) (g := g) (st := st) (sl := true) hl hh rlo.1 rhi.1 rlo.2 rhi.2 h1 (Nat.le_trans h2 hcapl)
    refine ⟨_,?_,final _ cap h1 h2 (Nat.le_trans h2 hcapl) ?_⟩
    ·simp only [Instr.sliceAt,Sem.run_bind,run_underlying hu,Result.andThen_ok,Instr.slice,hb,sizeOf_run hn]
     rfl
    ·intro e
     simp only [Bool.and_eq_true,beq_iff_eq] at e
     cases hr with
     | slcE _ _ a cap h5 => have := h5 e.1; simp at h2; omega
     | slc _ _ b off cap _ val _ _ _ _ _ h5 => have := h5 e.1; omega
   ·rename_i m
    simp only [Option.ite_none_right_eq_some,Option.some.injEq] at h
    obtain ⟨⟨h1,h2,h3,h4⟩,rfl⟩ := h
    cases vmx with
    | none => simp at rmx
    | some vm =>
     cases hi with
     | none => simp at h4
     | some dh =>
      cases vhi with
      | none => simp at rhi
      | some vh =>
       simp only [bnd] at hh
       have hb := bounds3_run (P := P) (len := els.length) (sl := true) hl hh h3 rlo.1 (rhi.1 dh vh rfl rfl) (rmx.1 m vm rfl rfl) rlo.2 h1 (Nat.le_trans h2 hcapl)
       refine ⟨_,?_,final true h' h1 h2 (Nat.le_refl _) (fun _ => rfl)⟩
       simp only [Instr.sliceAt,Sem.run_bind,run_underlying hu,Result.andThen_ok,Instr.slice,hb,sizeOf_run hn]
       rfl
  ·cases h
 ·rename_i key tot off len
  split at h
  ·rename_i o ho
   split at h
   ·rename_i hc
    simp only [Bool.and_eq_true,beq_iff_eq,bne_iff_ne,ne_eq] at hc
    obtain ⟨⟨⟨hrow,hsz⟩,htot⟩,hs0⟩ := hc
    obtain ⟨_,e,hu,hn⟩ := ht.resolve_left (fun h => hs0 h.1)
    obtain ⟨ob,h1,h2,h3,rfl,h5⟩ := live_row (by simp [live,ho,hrow,htot]) hr
    obtain rfl:ob = o := Option.some.inj (h1.symm.trans ho)
    obtain ⟨C,e',hb',_,hszp,hx,hC,hrep⟩ := hS.blk key ob ho (isMap_no_row hrow)
    rw [hrow] at hC
    simp only [if_true] at hC
    split at h
    ·rename_i l h' hl hh
     have hm:vmx = none := by
      cases vmx with
      | none => rfl
      | some _ => simp at rmx
     subst hm
     split at h
     ·rename_i hlh
      have hb := bounds2_run (P := P) (w := w) (g := g) (st := st) (sl := true) (cap := g.γ key - off) hl hh rlo.1 rhi.1 rlo.2 rhi.2 hlh.1 (by omega)
      have hrun:(Instr.sliceAt t (.slice (some ⟨g.β key,off * ob.sz,none⟩) len (g.γ key - off)) vlo vhi none).run P w = .ok (.slice (if g.γ key - off = l then some ⟨g.β key,off * ob.sz,none⟩ else some ⟨g.β key,off * ob.sz + l * sz,none⟩) (h' - l) (g.γ key - off - l)) w := by
       simp only [Instr.sliceAt,Sem.run_bind,run_underlying hu,Result.andThen_ok,Instr.slice,hb,sizeOf_run hn,Option.map_some,add_lit]
       rfl
      refine ⟨_,hrun,?_⟩
      split at h
      ·rename_i h6
       simp only [Option.some.injEq] at h
       subst h
       obtain ⟨rfl,rfl⟩ := h6
       simpa using hr
      ·split at h
       ·simp only [Option.some.injEq] at h
        subst h
        rename_i h7
        rw [h7,Nat.sub_self]
        exact .slcE _ _ _ _ fun e => by cases e
       ·simp only [Option.some.injEq] at h
        subst h
        rw [if_neg (by omega)]
        refine .row _ _ _ _ ob _ rfl ho hrow (by omega) fun _ => ⟨?_,by omega⟩
        rw [hsz,Nat.add_mul,Nat.sub_sub]
     ·cases h
    ·cases h
   ·cases h
  ·cases h
 ·cases h
end
end Go.Proofs.YtlleccmnjpcogaaDoor.PI
