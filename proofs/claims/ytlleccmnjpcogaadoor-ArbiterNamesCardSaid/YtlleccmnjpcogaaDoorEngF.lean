/-
  Each operation of the model does what its pure counterpart does: making immutable, loads, places, slices, conversions.
  Conditions: none; these are lemmas.
-/
import Derived.Test.YtlleccmnjpcogaaDoorEngE
set_option linter.unusedVariables false
set_option linter.unusedSimpArgs false
namespace Go.Proofs.YtlleccmnjpcogaaDoor.PI
open Go Go.RowKit
section
variable {P:Program} {base:Nat} {w:World} {g:Ghost} {st:St}
def Lent (g:Ghost) (st:St) (ks:List Nat):Prop := ∀ k ∈ ks,∀ o,st[k]? = some o → o.isMap = false → ∀ x,x < o.els.length * o.sz → g.Im (g.β k) x
theorem RepV.loose {sz:Nat} {els:List D} {t:Bool} {v:Value} (h:RepV w g st (.slc sz els t) v):RepV w g st (.slc sz els false) v := by
 cases h with
 | slcE _ _ a cap h => exact .slcE sz false a cap fun e => by cases e
 | slc _ _ b off cap _ val h1 h2 h3 h3' h4 h5 h6 h7 => exact .slc els false b off cap sz val h1 h2 h3 h3' h4 (fun e => by cases e) h6 h7
theorem RepV.nz {sz:Nat} {els:List D} {t:Bool} {v:Value} (h:RepV w g st (.slc sz els t) v):RepV w g st (.slc (PI.nz sz els) els false) v := by
 have h := h.loose
 cases els with
 | nil =>
  cases h with
  | slcE _ _ a cap h => exact .slcE _ false a cap fun e => by cases e
  | slc _ _ b off cap _ val h1 h2 h3 h3' h4 h5 h6 h7 => exact absurd rfl h1
 | cons a l => exact h
theorem imm1_rep (hS:SR base w g st) {d y:D} {v:Value} (h:imm1 st d = some y) (hr:RepV w g st d v) (hL:Lent g st (key1 d)):RepV w g st y v ∧ y.pure1 = true := by
 cases d with
 | row key tot off len =>
  simp only [imm1,Option.map_eq_some_iff] at h
  obtain ⟨⟨sz,els⟩,he,rfl⟩ := h
  obtain ⟨hE,o,ho,hrow,hsz,htot,hle,hels,hlen,rfl⟩ := row_els hS he hr
  refine ⟨RepV.nz (t := false) ?_,rfl⟩
  obtain ⟨C,e,hb,_,hszp,hx,hC,hrep⟩ := hS.blk key o ho (isMap_no_row hrow)
  rw [hrow] at hC
  simp only [if_true] at hC
  have hcap:els.length ≤ g.γ key - off := by omega
  subst hsz
  show RepV w g st (.slc o.sz els false) (.slice (some ⟨g.β key,off * o.sz,none⟩) len (g.γ key - off))
  rw [← hlen]
  refine .slc_mk hszp hE.len hcap (fun h => by cases h) ?_
  intro i j d hd
  refine ⟨hE.pure i j d hd,?_,?_⟩
  ·refine hL key (by simp [key1]) o ho (isMap_no_row hrow) _ ?_
   subst hels
   obtain ⟨h1,h2⟩ := cellAt_part hd
   obtain ⟨e1,h3,h4⟩ := cellAt_some h1
   have h5 := hx e1 (List.mem_of_getElem? h3)
   have h6:j < o.sz := by rw [← h5]; exact (List.getElem?_eq_some_iff.1 h4).1
   have h7:off + i < o.els.length := (List.getElem?_eq_some_iff.1 h3).1
   calc off * o.sz + i * o.sz + j < off * o.sz + i * o.sz + o.sz := by omega
    _ = (off + i + 1) * o.sz := by rw [Nat.add_mul,Nat.add_mul,Nat.one_mul]
    _ ≤ o.els.length * o.sz := Nat.mul_le_mul_right _ h7
  ·obtain ⟨a,cap,hv,hsh⟩ := hE.shape
   have hne:els ≠ [] := by
    rintro rfl
    simp [cellAt] at hd
   obtain ⟨b,f,ha,_,h8⟩ := hsh hne
   simp only [Value.slice.injEq] at hv
   rw [← hv.1] at ha
   simp only [Option.some.injEq,Addr.mk.injEq,and_true] at ha
   obtain ⟨u,h9,h10,_⟩ := h8 i j d hd
   rw [← ha.1,← ha.2] at h9
   exact ⟨u,h9,h10⟩
 | slc sz els t =>
  simp only [imm1,Option.some.injEq] at h
  subst h
  exact ⟨hr.nz,rfl⟩
 | bsl key off n sz ag =>
  simp only [imm1,Option.map_eq_some_iff] at h
  obtain ⟨els,he,rfl⟩ := h
  unfold bslI at he
  split at he
  case h_2 => cases he
  rename_i els' he'
  split at he
  case isFalse => cases he
  rename_i hpa
  simp only [Option.some.injEq] at he
  subst he
  obtain ⟨hE,hlen,o,cap,ho,hrow,hone,hle,hcap,rfl,hsz,hij⟩ := bsl_els hS he' hr (List.all_eq_true.1 hpa)
  refine ⟨RepV.nz (t := false) ?_,rfl⟩
  rw [← hlen]
  refine .slc_mk hsz hE.len (by omega) (fun h => by cases h) ?_
  intro i j d hd
  obtain ⟨h5,h6⟩ := hij i j d hd
  refine ⟨hE.pure i j d hd,?_,?_⟩
  ·have hx:off + i * sz + j < o.els.length * o.sz := by
    have h7:(i + 1) * sz ≤ n * sz := Nat.mul_le_mul_right _ h5
    rw [Nat.add_mul,Nat.one_mul] at h7
    rw [hone]
    omega
   exact hL key (by simp [key1]) o ho (isMap_no_one hone) _ hx
  ·obtain ⟨a,cap',hv,hsh⟩ := hE.shape
   have hne:els' ≠ [] := by
    rintro rfl
    simp [cellAt] at hd
   obtain ⟨b,f,ha,_,h8⟩ := hsh hne
   simp only [Value.slice.injEq] at hv
   rw [← hv.1] at ha
   simp only [Option.some.injEq,Addr.mk.injEq,and_true] at ha
   obtain ⟨u,h9,h10,_⟩ := h8 i j d hd
   rw [← ha.1,← ha.2] at h9
   exact ⟨u,h9,h10⟩
 | _ =>
  simp only [imm1] at h
  split at h
  ·rename_i hp
   simp only [Option.some.injEq] at h
   subst h
   exact ⟨hr,hp⟩
  ·cases h
theorem immL_rep (hS:SR base w g st):∀ {ds ys:List D},immL st ds = some ys → Lent g st (ds.flatMap key1) → ys.length = ds.length ∧
  (∀ (i:Nat) y v,ys[i]? = some y → (∀ d,ds[i]? = some d → RepV w g st d v) → RepV w g st y v) ∧ ys.all D.pure1 = true
 | [],ys,h,_ => by simp [immL] at h; subst h; exact ⟨rfl,fun i y v h => by simp at h,rfl⟩
 | d :: l,ys,h,hL => by
  unfold immL at h
  split at h
  ·rename_i x y hx hy
   simp at h; subst h
   obtain ⟨h1,h2,h3⟩ := immL_rep hS hy (fun k hk => hL k (by simp only [List.flatMap_cons,List.mem_append]; exact .inr hk))
   have hL1:Lent g st (key1 d) := fun k hk => hL k (by simp only [List.flatMap_cons,List.mem_append]; exact .inl hk)
   refine ⟨by simp [h1],?_,?_⟩
   ·intro i z v hz hv
    cases i with
    | zero => simp at hz; subst hz; exact (imm1_rep hS hx (hv d rfl) hL1).1
    | succ i => simp at hz; exact h2 i z v hz (fun d' hd' => hv d' (by simpa using hd'))
   ·simp only [List.all_cons,h3,Bool.and_true]
    cases d with
    | row key tot off len =>
     simp only [imm1,Option.map_eq_some_iff] at hx
     obtain ⟨p,_,rfl⟩ := hx
     rfl
    | slc sz els t => simp only [imm1,Option.some.injEq] at hx; subst hx; rfl
    | bsl key off n sz ag =>
     simp only [imm1,Option.map_eq_some_iff] at hx
     obtain ⟨p,_,rfl⟩ := hx
     rfl
    | _ =>
     simp only [imm1] at hx
     split at hx
     ·rename_i hp; simp only [Option.some.injEq] at hx; subst hx; exact hp
     ·cases hx
  ·cases h
theorem imm_rep (hS:SR base w g st) {d y:D} {v:Value} (h:imm st d = some y) (hr:RepV w g st d v) (hL:Lent g st (keys d)):RepV w g st y v ∧ purA y = true := by
 cases d with
 | agg l =>
  simp only [imm,Option.map_eq_some_iff] at h
  obtain ⟨ys,hy,rfl⟩ := h
  obtain ⟨h1,h2,h3⟩ := immL_rep hS hy hL
  cases hr with
  | agg _ vs h4 h5 =>
   exact ⟨.agg ys vs (h1.trans h4) fun i y v hy' hv => h2 i y v hy' fun d hd => h5 i d v hd hv,h3⟩
 | tup l => simp [imm] at h
 | _ =>
  simp only [imm] at h
  obtain ⟨h1,h2⟩ := imm1_rep hS h hr hL
  refine ⟨h1,?_⟩
  cases y <;> first | exact h2 | (simp [D.pure1] at h2; done)
theorem imms_rep (hS:SR base w g st):∀ {ds ys:List D},imms st ds = some ys → Lent g st (ds.flatMap keys) → ys.length = ds.length ∧
  (∀ (i:Nat) y v,ys[i]? = some y → (∀ d,ds[i]? = some d → RepV w g st d v) → RepV w g st y v) ∧ ∀ y ∈ ys,purA y = true
 | [],ys,h,_ => by simp [imms] at h; subst h; exact ⟨rfl,fun i y v h => by simp at h,fun y hy => by cases hy⟩
 | d :: l,ys,h,hL => by
  unfold imms at h
  split at h
  ·rename_i x y hx hy
   simp at h; subst h
   obtain ⟨h1,h2,h3⟩ := imms_rep hS hy (fun k hk => hL k (by simp only [List.flatMap_cons,List.mem_append]; exact .inr hk))
   have hL1:Lent g st (keys d) := fun k hk => hL k (by simp only [List.flatMap_cons,List.mem_append]; exact .inl hk)
   refine ⟨by simp [h1],?_,?_⟩
   ·intro i z v hz hv
    cases i with
    | zero => simp at hz; subst hz; exact (imm_rep hS hx (hv d rfl) hL1).1
    | succ i => simp at hz; exact h2 i z v hz (fun d' hd' => hv d' (by simpa using hd'))
   ·intro z hz
    rcases List.mem_cons.1 hz with rfl | hz
    ·
     cases d with
     | agg l =>
      simp only [imm,Option.map_eq_some_iff] at hx
      obtain ⟨ys,hy',rfl⟩ := hx
      exact (immL_rep hS hy' hL1).2.2
     | tup l => simp [imm] at hx
     | row key tot off len =>
      simp only [imm,imm1,Option.map_eq_some_iff] at hx
      obtain ⟨p,_,rfl⟩ := hx
      rfl
     | slc sz els t => simp only [imm,imm1,Option.some.injEq] at hx; subst hx; rfl
     | bsl key off n sz ag =>
      simp only [imm,imm1,Option.map_eq_some_iff] at hx
      obtain ⟨p,_,rfl⟩ := hx
      rfl
     | _ =>
      simp only [imm,imm1] at hx
      split at hx
      ·rename_i hp; simp only [Option.some.injEq] at hx; subst hx; exact hp
      ·cases hx
    ·exact h3 z hz
  ·cases h
theorem isAgg_run {t:TypeId} {ag:Bool} (h:agOf P t = some ag):(isAgg t).run P w = .ok ag w := by
 unfold agOf at h
 cases hu:P.underlying t with
 | none => simp [hu] at h
 | some u =>
  cases u <;> simp [hu] at h <;> subst h <;> simp [isAgg,run_underlying hu]
theorem sizeOf_run {t:TypeId} {n:Nat} (h:szOf P t = some n):(sizeOf t).run P w = .ok n w := by
 unfold szOf at h
 cases hi:P.info? t with
 | none => simp [hi] at h
 | some i => simp [hi] at h; subst h; simp [sizeOf,typeInfo,hi]
theorem loadVar_run {t:TypeId} {n:Nat} {ag:Bool} {b off:Nat} {cs:List D} (ha:agOf P t = some ag) (hn:szOf P t = some n) (hag:ag = false → n = 1) (hl:cs.length = n)
  (h:∀ (j:Nat) d,cs[j]? = some d → ∃ u,w.cell? ⟨b,off + j,none⟩ = some u ∧ RepV w g st d u) :
  ∃ v,(loadVar t ⟨b,off,none⟩).run P w = .ok v w ∧ RepV w g st (.mk ag cs) v := by
 cases ag with
 | true =>
  refine ⟨.agg ((List.range n).map fun j => (w.cell? ⟨b,off + j,none⟩).getD undef).toArray,?_,?_⟩
  ·have h1:∀ j,j < n → w.cell? ((⟨b,off,none⟩:Addr).add j) = some ((w.cell? ⟨b,off + j,none⟩).getD undef) := by
    intro j hj
    rw [cell?_add]
    obtain ⟨u,h2,_⟩ := h j cs[j] (by simp [hl,hj])
    simp [h2]
   simp only [loadVar,Sem.run_bind,isAgg_run ha,Result.andThen_ok,if_true,sizeOf_run hn,run_loadCells w _ n _ h1]
   rfl
  ·refine .agg cs _ (by simp [hl]) ?_
   intro i d v hd hv
   obtain ⟨u,h2,h3⟩ := h i d hd
   simp only [List.getElem?_map,Option.map_eq_some_iff] at hv
   obtain ⟨j,hj,rfl⟩ := hv
   have:j = i := by
    have := List.getElem?_eq_some_iff.1 hj
    obtain ⟨_,e⟩ := this
    simpa using e.symm
   subst this
   simpa [h2] using h3
 | false =>
  have h1 := hag rfl
  subst h1
  match cs,hl with
  | [d],_ =>
   obtain ⟨u,h2,h3⟩ := h 0 d rfl
   refine ⟨u,?_,h3⟩
   simp only [loadVar,Sem.run_bind,isAgg_run ha,Result.andThen_ok,Bool.false_eq_true,if_false,run_load]
   simp only [Nat.add_zero] at h2
   simp [h2]
theorem drop_take_get {l:List D} {off n j:Nat} {d:D} (h:((l.drop off).take n)[j]? = some d):l[off + j]? = some d ∧ j < n := by
 rw [List.getElem?_take] at h
 split at h
 ·rename_i hj; rw [List.getElem?_drop] at h; exact ⟨h,hj⟩
 ·cases h
theorem pload_run (hS:SR base w g st) {t:TypeId} {n:Nat} {ag:Bool} {p d:D} {v:Value} (ha:agOf P t = some ag) (hn:szOf P t = some n) (h:pload st n ag p = some d) (hr:RepV w g st p v) :
  ∃ u,(Instr.loadAt t v).run P w = .ok u w ∧ RepV w g st d u := by
 unfold pload at h
 split at h
 ·cases h
 rename_i hag
 have hag':ag = false → n = 1 := by intro e; subst e; simpa using hag
 have go:∀ (b off:Nat) (cs:List D),v = .pointer (some ⟨b,off,none⟩) → cs.length = n → (∀ (j:Nat) d,cs[j]? = some d → ∃ u,w.cell? ⟨b,off + j,none⟩ = some u ∧ RepV w g st d u) → d = .mk ag cs →
   ∃ u,(Instr.loadAt t v).run P w = .ok u w ∧ RepV w g st d u := by
  intro b off cs hv hl hc hd
  subst hv; subst hd
  obtain ⟨u,h1,h2⟩ := loadVar_run (P := P) ha hn hag' hl hc
  exact ⟨u,by simpa [Instr.loadAt,Instr.sureAddr] using h1,h2⟩
 split at h
 ·rename_i key off
  cases hr with
  | ptr _ _ o ho hrow hone =>
   rw [ho] at h
   simp only [hrow,Bool.not_false,Bool.true_and,decide_eq_true_eq,Option.ite_none_right_eq_some,Option.some.injEq] at h
   obtain ⟨hle,rfl⟩ := h
   obtain ⟨C,e,hb,_,hszp,hx,hC,hrep⟩ := hS.blk key o ho (isMap_no_one hone)
   rw [hrow] at hC
   simp only [Bool.false_eq_true,if_false] at hC
   refine go _ _ _ rfl (by rw [List.length_take,List.length_drop]; omega) ?_ rfl
   intro j d hd
   obtain ⟨h1,h2⟩ := drop_take_get hd
   have h3 := hC.2.2 d (List.mem_of_getElem? h1)
   obtain ⟨_,u,h5,h6⟩ := hrep (off + j) 0 d (cellAt_mk h1 (by rw [h3]; rfl))
   refine ⟨u,?_,h6⟩
   rw [hC.2.1] at h5
   simp only [World.cell?,hb]
   simpa using h5
 ·rename_i key tot i off
  cases hr with
  | rptr _ _ _ _ o _ _ ho hrow h3 h4 =>
   rw [ho] at h
   simp only [hrow,Bool.true_and,beq_iff_eq] at h
   split at h
   ·rename_i htot
    split at h
    ·rename_i el hel
     simp only [Option.ite_none_right_eq_some,Option.some.injEq] at h
     obtain ⟨hle,rfl⟩ := h
     obtain ⟨C,e,hb,_,hszp,hx,hC,hrep⟩ := hS.blk key o ho (isMap_no_row hrow)
     refine go _ _ _ (h4 htot.symm) (by rw [List.length_take,List.length_drop]; omega) ?_ rfl
     intro j d hd
     obtain ⟨h1,h2⟩ := drop_take_get hd
     obtain ⟨_,u,h5,h6⟩ := hrep i (off + j) d (cellAt_mk hel h1)
     refine ⟨u,?_,h6⟩
     simp only [World.cell?,hb]
     simpa [Nat.add_assoc] using h5
    ·cases h
   ·cases h
 ·rename_i el off
  cases hr with
  | eptr _ _ b o val h0 h1 h2 =>
   simp only [Option.ite_none_right_eq_some,Option.some.injEq] at h
   obtain ⟨hle,rfl⟩ := h
   refine go _ _ _ rfl (by rw [List.length_take,List.length_drop]; omega) ?_ rfl
   intro j d hd
   obtain ⟨h3,_⟩ := drop_take_get hd
   refine ⟨_,?_,h2 _ _ h3⟩
   have := (h1 _ _ h3).2
   rwa [← Nat.add_assoc] at this
 ·cases h
end
end Go.Proofs.YtlleccmnjpcogaaDoor.PI
