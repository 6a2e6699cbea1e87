/-
  Maps and copies: the model's operations do what the pure ones do.
  Conditions: none; these are definitions and lemmas.
-/
import Derived.Test.YtlleccmnjpcogaaDoorEngM
import Derived.MapKept
import Derived.Laws.CopyRow
import Derived.Laws.IdiomCopy
set_option linter.unusedVariables false
set_option linter.unusedSimpArgs false
namespace Go.Proofs.YtlleccmnjpcogaaDoor.PI
open Go Go.RowKit
def keyTy (P:Program) (kt:TypeId):Option (Nat × List Nat) :=
 match P.underlying kt with
 | some (.int _) => some (2,[0])
 | some .bool => some (2,[1])
 | some .string => some (2,[2])
 | some (.array n e) => match P.underlying e,szOf P e with
  | some (.int _),some 1 => if 2 ≤ n then some (n + 1,List.replicate n 0) else none
  | _,_ => none
 | _ => none
def mapTy (P:Program) (t:TypeId):Option (TypeId × TypeId × Nat × List Nat) :=
 match P.underlying t with
 | some (.map kt et) => match keyTy P kt,szOf P et,agOf P et with
  | some (sz,ks),some 1,some false => if sz = 1000003 then none else some (kt,et,sz,ks)
  | _,_,_ => none
 | _ => none
theorem mapTy_inv {P:Program} {t kt et:TypeId} {sz:Nat} {ks:List Nat} (h:mapTy P t = some (kt,et,sz,ks)):P.underlying t = some (.map kt et) ∧ keyTy P kt = some (sz,ks) ∧ sz ≠ 1000003 ∧ szOf P et = some 1 ∧ agOf P et = some false := by
 unfold mapTy at h
 split at h
 case h_2 => cases h
 rename_i kt' et' hu
 split at h
 case h_2 => cases h
 rename_i sz' ks' h1 h2 h3
 split at h
 case isTrue => cases h
 rename_i hne
 simp only [Option.some.injEq,Prod.mk.injEq] at h
 obtain ⟨rfl,rfl,rfl,rfl⟩ := h
 exact ⟨hu,h1,hne,h2,h3⟩
section
variable {P:Program} {base:Nat} {w:World} {g:Ghost} {st:St}
theorem flatEq1_true {q:Nat} {x y:D} (h:flatEq1 q x y = some true):x = y := by
 unfold flatEq1 at h
 split at h
 ·rename_i k a k' b
  split at h
  ·rename_i e
   simp only [Option.some.injEq,beq_iff_eq] at h
   rw [e,h]
  ·cases h
 ·simp only [Option.some.injEq,beq_iff_eq] at h; rw [h]
 ·simp only [Option.some.injEq,beq_iff_eq] at h; rw [h]
 ·cases h
def simp1:D → Bool
 | .int _ _ | .bool _ | .str _ => true
 | _ => false
theorem flatEq1_simp {q:Nat} {x y:D} {b:Bool} (h:flatEq1 q x y = some b):simp1 x = true ∧ simp1 y = true := by
 unfold flatEq1 at h
 split at h
 ·exact ⟨rfl,rfl⟩
 ·exact ⟨rfl,rfl⟩
 ·exact ⟨rfl,rfl⟩
 ·cases h
theorem flatEq_true:∀ {ks:List Nat} {xs ys:List D},flatEq ks xs ys = some true → xs = ys
 | [],[],[],_ => rfl
 | q :: qs,x :: xs,y :: ys,h => by
  simp only [flatEq] at h
  split at h
  ·rename_i a b h1 h2
   simp only [Option.some.injEq,Bool.and_eq_true] at h
   obtain ⟨rfl,rfl⟩ := h
   rw [flatEq1_true h1,flatEq_true h2]
  ·cases h
 | [],[],_ :: _,h => by simp [flatEq] at h
 | [],_ :: _,_,h => by simp [flatEq] at h
 | _ :: _,[],_,h => by simp [flatEq] at h
 | _ :: _,_ :: _,[],h => by simp [flatEq] at h
theorem flatEq_simp:∀ {ks:List Nat} {xs ys:List D} {b:Bool},flatEq ks xs ys = some b → ∀ x ∈ xs,simp1 x = true
 | [],[],[],_,_ => fun x hx => by cases hx
 | q :: qs,x :: xs,y :: ys,b,h => by
  simp only [flatEq] at h
  split at h
  ·rename_i a b h1 h2
   intro z hz
   rcases List.mem_cons.1 hz with rfl | hz
   ·exact (flatEq1_simp h1).1
   ·exact flatEq_simp h2 z hz
  ·cases h
 | [],[],_ :: _,_,h => by simp [flatEq] at h
 | [],_ :: _,_,_,h => by simp [flatEq] at h
 | _ :: _,[],_,_,h => by simp [flatEq] at h
 | _ :: _,_ :: _,[],_,h => by simp [flatEq] at h
theorem simp1_uniq {d:D} {v u:Value} (hd:simp1 d = true) (h:RepV w g st d v) (h2:RepV w g st d u):v = u := by
 cases h <;> cases h2 <;> first | rfl | (simp [simp1] at hd; done)
theorem keyEq_true {sz:Nat} {ks:List Nat} {x y:D} {vx vy:Value} (h:keyEq sz ks x y = some true) (hx:RepV w g st x vx) (hy:RepV w g st y vy):vx = vy := by
 unfold keyEq at h
 split at h
 ·split at h
  ·obtain rfl := flatEq1_true h
   exact simp1_uniq (flatEq1_simp h).1 hx hy
  ·cases h
 ·split at h
  ·rename_i xs ys
   have hs := flatEq_simp h
   obtain rfl := flatEq_true h
   cases hx with
   | agg _ vs h1 h2 =>
    cases hy with
    | agg _ us h3 h4 =>
     have:vs = us := by
      apply List.ext_getElem?
      intro i
      cases hv:vs[i]? with
      | none => rw [List.getElem?_eq_none_iff] at hv; exact (List.getElem?_eq_none_iff.2 (by omega)).symm
      | some v =>
       have hil := (List.getElem?_eq_some_iff.1 hv).1
       have hd:xs[i]? = some xs[i] := List.getElem?_eq_getElem (by omega)
       have hu:us[i]? = some us[i] := List.getElem?_eq_getElem (by omega)
       rw [hu,simp1_uniq (hs _ (List.mem_of_getElem? hd)) (h2 i _ v hd hv) (h4 i _ _ hd hu)]
     rw [this]
  ·cases h
theorem sameBits_simp {d:D} {v:Value} (hd:simp1 d = true) (h:RepV w g st d v) (n:Nat):Instr.sameBits n v v = true := by
 cases h <;> first
  | (simp [Instr.sameBits]; done)
  | (simp [simp1] at hd; done)
  | (unfold Instr.sameBits; exact (MapKept.bytes_beq _ _).2 rfl)
theorem keyEq_stays {sz:Nat} {ks:List Nat} {x y:D} {b:Bool} {vx:Value} (h:keyEq sz ks x y = some b) (hx:RepV w g st x vx):Instr.sameBits 10000 vx vx = true := by
 unfold keyEq at h
 split at h
 ·split at h
  ·exact sameBits_simp (flatEq1_simp h).1 hx _
  ·cases h
 ·split at h
  ·rename_i xs ys
   have hs := flatEq_simp h
   cases hx with
   | agg _ vs h1 h2 =>
    show (vs.toArray.size == vs.toArray.size && (vs.toArray.toList.zip vs.toArray.toList).all fun (x,y) => Instr.sameBits 9999 x y) = true
    rw [Bool.and_eq_true]
    refine ⟨by simp,?_⟩
    rw [List.all_eq_true]
    rintro ⟨u,u'⟩ hu
    have hu':u = u' := by
     have := List.mem_iff_getElem?.1 hu
     obtain ⟨i,hi⟩ := this
     rw [List.getElem?_zip_eq_some] at hi
     exact Option.some.inj (hi.1.symm.trans hi.2)
    subst hu'
    have hm:u ∈ vs := (List.of_mem_zip hu).1
    obtain ⟨i,hi⟩ := List.mem_iff_getElem?.1 hm
    have hil := (List.getElem?_eq_some_iff.1 hi).1
    have hd:xs[i]? = some xs[i] := List.getElem?_eq_getElem (by omega)
    exact sameBits_simp (hs _ (List.mem_of_getElem? hd)) (h2 i _ u hd hi) _
  ·cases h
theorem keyStays_run {sz:Nat} {ks:List Nat} {x y:D} {b:Bool} {vx:Value} (h:keyEq sz ks x y = some b) (hx:RepV w g st x vx) (w1:World):(Instr.keyThatStays vx vx).run P w1 = .ok vx w1 := by
 simp [Instr.keyThatStays,keyEq_stays h hx]
theorem checkKey_int {e:TypeId} {kk:IntKind} (hu:P.underlying e = some (.int kk)) (em:Bool) (n:Nat) (v:Value):(Instr.checkKey em (n + 1) e v).run P w = .ok () w := by
 unfold Instr.checkKey
 simp only [Sem.run_bind,run_underlying hu,Result.andThen]
 rfl
theorem checkKey_run {kt:TypeId} {sz:Nat} {ks:List Nat} {x y:D} {b:Bool} {v:Value} (hk:keyTy P kt = some (sz,ks)) (h:keyEq sz ks x y = some b) (hr:RepV w g st x v) (em:Bool):(Instr.checkKey em 10000 kt v).run P w = .ok () w := by
 unfold keyTy at hk
 split at hk
 ·rename_i hu
  exact checkKey_int hu em 9999 v
 ·rename_i hu
  unfold Instr.checkKey
  simp only [Sem.run_bind,run_underlying hu,Result.andThen]
  rfl
 ·rename_i hu
  unfold Instr.checkKey
  simp only [Sem.run_bind,run_underlying hu,Result.andThen]
  rfl
 ·rename_i n e hu
  split at hk
  ·rename_i kk hue hse
   split at hk
   ·rename_i h2
    simp only [Option.some.injEq,Prod.mk.injEq] at hk
    obtain ⟨rfl,rfl⟩ := hk
    unfold keyEq at h
    rw [if_neg (by omega)] at h
    split at h
    ·rename_i xs ys
     have hl := (flatEq_length h).1
     rw [List.length_replicate] at hl
     cases hr with
     | agg _ vs h3 h4 =>
      have hag:agOf P e = some false := by unfold agOf; rw [hue]
      unfold Instr.checkKey
      simp only [Sem.run_bind,run_underlying hu,Result.andThen_ok]
      simp only [Std.Legacy.Range.forIn_eq_forIn_range',Std.Legacy.Range.size,Nat.sub_zero,Nat.add_one_sub_one,Nat.div_one]
      have each:∀ i ∈ List.range' 0 n,i < vs.length := fun i hi => by rw [List.mem_range'_1] at hi; omega
      generalize List.range' 0 n = is at each
      refine (?_:((forIn is PUnit.unit fun i __s => do
       let __do_lift ← sizeOf e
       let __do_lift ← part e vs.toArray (i * __do_lift)
       Instr.checkKey em 9999 e __do_lift
       pure (ForInStep.yield PUnit.unit):Sem PUnit).run P w).andThen _ = _)
      induction is with
      | nil => simp
      | cons j is ih =>
       have hj := each j (by simp)
       have p1 := part_mkv (P := P) (w := w) (vs := vs) (off := j * 1) hag hse (fun _ => rfl) (by omega)
       simp only [List.forIn_cons,Sem.run_bind,sizeOf_run hse,Result.andThen_ok,p1,checkKey_int hue,Sem.run_pure]
       exact ih (fun y hy => each y (by simp [hy]))
    ·cases h
   ·cases hk
  ·cases hk
 ·cases hk
theorem sameNow_run {desc:TypeDesc} {q:Nat} {x y:D} {b:Bool} {vx vy:Value} (hd:(∃ kk,desc = .int kk ∧ q = 0) ∨ (desc = .bool ∧ q = 1) ∨ (desc = .string ∧ q = 2)) (h:flatEq1 q x y = some b) (hx:RepV w g st x vx) (hy:RepV w g st y vy):Instr.sameNow desc vx vy = some b := by
 rcases hd with ⟨kk,rfl,rfl⟩ | ⟨rfl,rfl⟩ | ⟨rfl,rfl⟩
 ·unfold flatEq1 at h
  split at h <;> simp_all
  obtain rfl := int_inv hx
  obtain rfl := int_inv hy
  simp_all [Instr.sameNow]
 ·unfold flatEq1 at h
  split at h <;> simp_all
  obtain rfl := bool_inv hx
  obtain rfl := bool_inv hy
  simp_all [Instr.sameNow]
 ·unfold flatEq1 at h
  split at h <;> simp_all
  obtain rfl := str_inv hx
  obtain rfl := str_inv hy
  simp only [Instr.sameNow,Option.some.injEq]
  rw [← h,Bool.eq_iff_iff,MapKept.bytes_beq]
  simp
def Ents (w:World) (g:Ghost) (st:St) (sz:Nat) (els:List D) (es:List MapEntry):Prop :=
 es.length = els.length ∧ ∀ (i:Nat) (e:MapEntry) (el:D),es[i]? = some e → els[i]? = some el → RepV w g st (entK sz el) e.key ∧ RepV w g st (entV sz el) e.val
theorem Ents.tail {sz:Nat} {el:D} {els:List D} {e:MapEntry} {es:List MapEntry} (h:Ents w g st sz (el :: els) (e :: es)):Ents w g st sz els es :=
 ⟨by have := h.1; simp only [List.length_cons] at this; omega,fun i e' el' h1 h2 => h.2 (i + 1) e' el' (by simpa using h1) (by simpa using h2)⟩
theorem findNow_run {desc:TypeDesc} {q:Nat} {k:D} {kv:Value} (hd:(∃ kk,desc = .int kk ∧ q = 0) ∨ (desc = .bool ∧ q = 1) ∨ (desc = .string ∧ q = 2)) (hk:RepV w g st k kv):∀ (els:List D) (es:List MapEntry) (i:Nat) (r:Option Nat),Ents w g st 2 els es → mfind 2 [q] k els i = some r →
  (r = none ∧ Instr.findNow desc kv es i = some none) ∨ ∃ j e,r = some (i + j) ∧ es[j]? = some e ∧ Instr.findNow desc kv es i = some (some (i + j,e.val)) ∧ ∃ el,els[j]? = some el ∧ keyEq 2 [q] k (entK 2 el) = some true
 | [],es,i,r,h,hm => by
  obtain rfl:es = [] := List.eq_nil_of_length_eq_zero h.1
  simp only [mfind,Option.some.injEq] at hm
  exact .inl ⟨hm.symm,rfl⟩
 | el :: els,[],i,r,h,hm => by have := h.1; simp at this
 | el :: els,e :: es,i,r,h,hm => by
  have h0 := (h.2 0 e el rfl rfl).1
  simp only [mfind] at hm
  split at hm
  ·rename_i hq
   simp only [Option.some.injEq] at hm
   subst hm
   have hs := sameNow_run hd (show flatEq1 q k (entK 2 el) = some true from hq) hk h0
   exact .inr ⟨0,e,rfl,rfl,by simp only [Instr.findNow,hs,Nat.add_zero],el,rfl,hq⟩
  ·rename_i hq
   have hs := sameNow_run hd (show flatEq1 q k (entK 2 el) = some false from hq) hk h0
   rcases findNow_run hd hk els es (i + 1) r h.tail hm with ⟨h1,h2⟩ | ⟨j,e',h1,h2,h3,el',h4,h5⟩
   ·exact .inl ⟨h1,by simp only [Instr.findNow,hs,h2]⟩
   ·refine .inr ⟨j + 1,e',by rw [h1]; congr 1; omega,by simpa using h2,?_,el',by simpa using h4,h5⟩
    simp only [Instr.findNow,hs,h3]
    congr 3; omega
  ·cases hm
theorem findAsking_run {kt:TypeId} {sz:Nat} {ks:List Nat} {k:D} {kv:Value} (hsz:sz ≠ 2) (hl:leafs P 100 kt = some ks) (ha:agOf P kt = some true) (hk:RepV w g st k kv):∀ (els:List D) (es:List MapEntry) (i:Nat) (r:Option Nat),Ents w g st sz els es → mfind sz ks k els i = some r →
  (r = none ∧ (Instr.findAsking kt kv es i).run P w = .ok none w) ∨ ∃ j e,r = some (i + j) ∧ es[j]? = some e ∧ (Instr.findAsking kt kv es i).run P w = .ok (some (i + j,e.val)) w ∧ ∃ el,els[j]? = some el ∧ keyEq sz ks k (entK sz el) = some true
 | [],es,i,r,h,hm => by
  obtain rfl:es = [] := List.eq_nil_of_length_eq_zero h.1
  simp only [mfind,Option.some.injEq] at hm
  exact .inl ⟨hm.symm,rfl⟩
 | el :: els,[],i,r,h,hm => by have := h.1; simp at this
 | el :: els,e :: es,i,r,h,hm => by
  have h0 := (h.2 0 e el rfl rfl).1
  have he:∀ b,keyEq sz ks k (entK sz el) = some b → (Op.equal kt kv e.key).run P w = .ok b w := fun b hb => by
   unfold keyEq at hb
   rw [if_neg hsz] at hb
   split at hb
   ·rename_i xs ys hky
    rw [hky] at h0
    cases hk with
    | agg _ vs h1 h2 =>
     generalize e.key = ek at h0
     cases h0 with
     | agg _ us h3 h4 => exact leafs_eq 100 kt ks hl 10000 (by omega) w g st true xs ys vs us b ha hb h1 h3 h2 h4
   ·cases hb
  simp only [mfind] at hm
  split at hm
  ·rename_i hq
   simp only [Option.some.injEq] at hm
   subst hm
   exact .inr ⟨0,e,rfl,rfl,by simp [Instr.findAsking,he true hq],el,rfl,hq⟩
  ·rename_i hq
   rcases findAsking_run hsz hl ha hk els es (i + 1) r h.tail hm with ⟨h1,h2⟩ | ⟨j,e',h1,h2,h3,el',h4,h5⟩
   ·exact .inl ⟨h1,by simp [Instr.findAsking,he false hq,h2]⟩
   ·refine .inr ⟨j + 1,e',by rw [h1]; congr 1; omega,by simpa using h2,?_,el',by simpa using h4,h5⟩
    simp [Instr.findAsking,he false hq,h3]
    omega
  ·cases hm
theorem leafs_array {kt e:TypeId} {n:Nat} {kk:IntKind} (hu:P.underlying kt = some (.array n e)) (hue:P.underlying e = some (.int kk)) (hse:szOf P e = some 1):leafs P 100 kt = some (List.replicate n 0) := by
 have h1:leafs P 99 e = some [0] := by unfold leafs; rw [hue]
 unfold leafs
 rw [hu]
 simp only [h1,hse]
 simp
theorem findKey_run {kt:TypeId} {sz:Nat} {ks:List Nat} {k:D} {kv:Value} {els:List D} {es:List MapEntry} {r:Option Nat} (hkt:keyTy P kt = some (sz,ks)) (hk:RepV w g st k kv) (hE:Ents w g st sz els es) (hm:mfind sz ks k els 0 = some r) :
  (r = none ∧ (Instr.findKey kt kv es).run P w = .ok none w) ∨ ∃ j e,r = some j ∧ es[j]? = some e ∧ (Instr.findKey kt kv es).run P w = .ok (some (j,e.val)) w ∧ ∃ el,els[j]? = some el ∧ keyEq sz ks k (entK sz el) = some true := by
 have one:∀ (desc:TypeDesc) (q:Nat),P.underlying kt = some desc → (sz,ks) = (2,[q]) → ((∃ kk,desc = .int kk ∧ q = 0) ∨ (desc = .bool ∧ q = 1) ∨ (desc = .string ∧ q = 2)) →
   (r = none ∧ (Instr.findKey kt kv es).run P w = .ok none w) ∨ ∃ j e,r = some j ∧ es[j]? = some e ∧ (Instr.findKey kt kv es).run P w = .ok (some (j,e.val)) w ∧ ∃ el,els[j]? = some el ∧ keyEq sz ks k (entK sz el) = some true := by
  intro desc q hu he hd
  simp only [Prod.mk.injEq] at he
  obtain ⟨rfl,rfl⟩ := he
  rcases findNow_run hd hk els es 0 r hE hm with ⟨h1,h2⟩ | ⟨j,e,h1,h2,h3,h4⟩
  ·exact .inl ⟨h1,MapKept.run_findKey hu h2⟩
  ·rw [Nat.zero_add] at h1 h3
   exact .inr ⟨j,e,h1,h2,MapKept.run_findKey hu h3,h4⟩
 unfold keyTy at hkt
 split at hkt
 ·rename_i kk hu
  exact one _ 0 hu (Option.some.inj hkt).symm (.inl ⟨kk,rfl,rfl⟩)
 ·rename_i hu
  exact one _ 1 hu (Option.some.inj hkt).symm (.inr (.inl ⟨rfl,rfl⟩))
 ·rename_i hu
  exact one _ 2 hu (Option.some.inj hkt).symm (.inr (.inr ⟨rfl,rfl⟩))
 ·rename_i n e hu
  split at hkt
  ·rename_i kk hue hse
   split at hkt
   ·rename_i h2
    simp only [Option.some.injEq,Prod.mk.injEq] at hkt
    obtain ⟨rfl,rfl⟩ := hkt
    have ha:agOf P kt = some true := by unfold agOf; rw [hu]
    have h3 := findAsking_run (by omega) (leafs_array hu hue hse) ha hk els es 0 r hE hm
    have h4:(Instr.findKey kt kv es).run P w = (Instr.findAsking kt kv es 0).run P w := by
     cases es with
     | nil => simp [Instr.findKey,run_underlying hu,Instr.findNow,Instr.findAsking]
     | cons e0 es =>
      have:Instr.findNow (.array n e) kv (e0 :: es) 0 = none := by
       simp only [Instr.findNow]
       have:Instr.sameNow (.array n e) kv e0.key = none := by
        unfold Instr.sameNow
        rfl
       rw [this]
      simp [Instr.findKey,run_underlying hu,this]
    rw [h4]
    rcases h3 with h3 | ⟨j,e,h5,h6,h7,h8⟩
    ·exact .inl h3
    ·rw [Nat.zero_add] at h5 h7
     exact .inr ⟨j,e,h5,h6,h7,h8⟩
   ·cases hkt
  ·cases hkt
 ·cases hkt
theorem mkmap_run (hS:SR base w g st) {t:TypeId} {sz:Nat} (h:1 < sz) (hns:sz ≠ 1000003):RunsTo P base w g st (Instr.makeMap t none) (.mapv st.length) (st ++ [{ row := false,sz,els := [],lent := false }]) := by
 have hm:({ row := false,sz,els := [],lent := false }:Obj).isMap = true := by simp [Obj.isMap,h]
 have hgo := SR.pushMap (w' := w.alloc (.map #[] 0)) (o := { row := false,sz,els := [],lent := false }) (clock := 0) hS ⟨rfl,rfl,rfl,by simp⟩ (fun b hb => push_old w _ b hb) (MapKept.heap_alloc w _).1 hm hns rfl
 refine ⟨.map (some w.heap.size),_,_,rfl,hgo,?_⟩
 have := RepV.mapv (w := w.alloc (.map #[] 0)) (g := { g with β := upd g.β st.length w.heap.size }) (st := st ++ [{ row := false,sz,els := [],lent := false }]) st.length { row := false,sz,els := [],lent := false } (by simp) hm
 simpa [upd_same] using this
theorem map_inv {key:Nat} {o:Obj} {v:Value} (ho:st[key]? = some o) (h:RepV w g st (.mapv key) v):o.isMap = true ∧ v = .map (some (g.β key)) := by
 cases h with
 | mapv _ ob h1 h2 =>
  obtain rfl:ob = o := Option.some.inj (h1.symm.trans ho)
  exact ⟨h2,rfl⟩
theorem ents_of {o:Obj} {es:Array MapEntry} (h1:es.size = o.els.length) (h2:∀ (i:Nat) (e:MapEntry) (el:D),es[i]? = some e → o.els[i]? = some el → RepV w g st (entK o.sz el) e.key ∧ RepV w g st (entV o.sz el) e.val):Ents w g st o.sz o.els es.toList :=
 ⟨by simpa using h1,fun i e el he hel => h2 i e el (by simpa using he) hel⟩
theorem keyTy_pos {P:Program} {kt:TypeId} {sz:Nat} {ks:List Nat} (h:keyTy P kt = some (sz,ks)):sz ≠ 0 := by
 unfold keyTy at h
 repeat' split at h
 all_goals first | (cases h; done) | (simp only [Option.some.injEq,Prod.mk.injEq] at h; omega)
theorem mapget_run (hS:SR base w g st) {t kt et:TypeId} {sz:Nat} {ks:List Nat} {ok:Bool} {m k r zd:D} {vm vk:Value} (ht:mapTy P t = some (kt,et,sz,ks)) (hz:zrOf P et = some zd) (hm:RepV w g st m vm) (hk:RepV w g st k vk)
  (h:pmapget st sz ks ok zd m k = some r):∃ v,(Instr.lookup t vm vk ok).run P w = .ok v w ∧ RepV w g st r v := by
 obtain ⟨hu,hkt,hns,_,_⟩ := mapTy_inv ht
 have hsz0:sz ≠ 0 := keyTy_pos hkt
 unfold pmapget at h
 split at h
 case h_2 => rw [if_neg hsz0] at h; cases h
 case h_3 => cases h
 rename_i key
 split at h
 case h_2 => cases h
 rename_i o ho
 split at h
 case isFalse => cases h
 rename_i hc
 simp only [Bool.and_eq_true,beq_iff_eq] at hc
 obtain ⟨⟨_,rfl⟩,hkk⟩ := hc
 obtain ⟨b,hb⟩ := Option.isSome_iff_exists.1 hkk
 obtain ⟨hmap,rfl⟩ := map_inv ho hm
 obtain ⟨es,clock,h1,h2,h3,h4,h5,h5'⟩ := (hS.mp key o ho hmap).old (by first | exact hns | (simpa using hns))
 have hE := ents_of h3 h5
 have hchk := checkKey_run (w := w) hkt hb hk es.isEmpty
 have hzr:∃ z,(zeroValue et).run P w = .ok z w ∧ RepV w g st zd z := by
  unfold zrOf at hz
  split at hz
  case h_2 => cases hz
  rename_i i hi
  split at hz
  case h_2 => cases hz
  rename_i z hzz
  exact ⟨z,by simp [zeroValue,typeInfo,hi,hzz],constD_rep hz⟩
 obtain ⟨z,hz1,hz2⟩ := hzr
 have tup2:∀ (x:D) (v:Value) (b:Bool),RepV w g st x v → RepV w g st (.tup [x,.bool b]) (.tuple #[v,.bool b]) := fun x v b hx => by
  refine .tup [x,.bool b] [v,.bool b] rfl fun i d u hd hu => ?_
  match i,hd,hu with
  | 0,hd,hu => simp at hd hu; subst hd; subst hu; exact hx
  | 1,hd,hu => simp at hd hu; subst hd; subst hu; exact .bool _
 split at h
 ·rename_i i hi
  split at h
  ·rename_i el hel
   simp only [Option.some.injEq] at h
   subst h
   rcases findKey_run hkt hk hE hi with ⟨h6,_⟩ | ⟨j,e,h6,h7,h8,el',h9,h10⟩
   ·cases h6
   ·obtain rfl := Option.some.inj h6
    have hr := (h5 i e el (by simpa using h7) hel).2
    cases ok with
    | true => exact ⟨.tuple #[e.val,.bool true],by simp [Instr.lookup,run_underlying hu,MapKept.run_getObj_map h1,hchk,h8],tup2 _ _ _ hr⟩
    | false => exact ⟨e.val,by simp [Instr.lookup,run_underlying hu,MapKept.run_getObj_map h1,hchk,h8],hr⟩
  ·cases h
 ·rename_i hi
  simp only [Option.some.injEq] at h
  subst h
  rcases findKey_run hkt hk hE hi with ⟨_,h8⟩ | ⟨j,e,h6,_⟩
  ·cases ok with
   | true => exact ⟨.tuple #[z,.bool false],by simp [Instr.lookup,run_underlying hu,MapKept.run_getObj_map h1,hchk,h8,hz1],tup2 _ _ _ hz2⟩
   | false => exact ⟨z,by simp [Instr.lookup,run_underlying hu,MapKept.run_getObj_map h1,hchk,h8,hz1],hz2⟩
  ·cases h6
 ·cases h
def gmapTy (P:Program) (t:TypeId):Option D := match P.underlying t with
 | some (.map kt et) => match P.underlying kt,szOf P et,agOf P et,zrOf P et with
  | some (.int .i64),some 1,some true,some zd => some zd
  | _,_,_,_ => none
 | _ => none
theorem gmapTy_inv {P:Program} {t:TypeId} {zd:D} (h:gmapTy P t = some zd):∃ kt et,P.underlying t = some (.map kt et) ∧ P.underlying kt = some (.int .i64) ∧ zrOf P et = some zd := by
 unfold gmapTy at h
 split at h
 case h_2 => cases h
 rename_i kt et hu
 split at h
 case h_2 => cases h
 rename_i h1 h2 h3 h4
 simp only [Option.some.injEq] at h
 subst h
 exact ⟨kt,et,hu,h1,h4⟩
theorem findNow_fit {es:List (Int × Nat)} (n:Int):∀ (l:List MapEntry) (i:Nat),(∀ e ∈ l,∃ m f,e.key = .int .i64 m ∧ e.val = .agg #[.func (.func f) #[] #[]] ∧ f < 5000000 ∧ gfind m es = some f) →
  (∃ j f,Instr.findNow (.int .i64) (.int .i64 n) l i = some (some (j,.agg #[.func (.func f) #[] #[]])) ∧ gfind n es = some f ∧ f < 5000000) ∨ (Instr.findNow (.int .i64) (.int .i64 n) l i = some none ∧ ∀ e ∈ l,e.key ≠ .int .i64 n)
 | [],i,_ => .inr ⟨rfl,fun e he => by cases he⟩
 | e :: l,i,h => by
  obtain ⟨m,f,h1,h2,h3,h4⟩ := h e (by simp)
  by_cases hmn:n = m
  ·subst hmn
   exact .inl ⟨i,f,by simp [Instr.findNow,Instr.sameNow,h1,h2],h4,h3⟩
  ·have hf:Instr.findNow (.int .i64) (.int .i64 n) (e :: l) i = Instr.findNow (.int .i64) (.int .i64 n) l (i + 1) := by
    have hb:(n == m) = false := by simpa using hmn
    simp only [Instr.findNow,Instr.sameNow,h1,if_true,hb]
   rcases findNow_fit n l (i + 1) (fun x hx => h x (by simp [hx])) with ⟨j,f',h5,h6⟩ | ⟨h5,h6⟩
   ·exact .inl ⟨j,f',hf.trans h5,h6⟩
   ·refine .inr ⟨hf.trans h5,fun x hx => ?_⟩
    rcases List.mem_cons.1 hx with rfl | hx
    ·rw [h1]; intro e; cases e; exact hmn rfl
    ·exact h6 x hx
theorem gget_run {t:TypeId} {ok:Bool} {m k r zd:D} {vm vk:Value} (ht:gmapTy P t = some zd) (hm:RepV w g st m vm) (hk:RepV w g st k vk) (h:pmapget st 0 [] ok zd m k = some r) :
  ∃ v,(Instr.lookup t vm vk ok).run P w = .ok v w ∧ RepV w g st r v := by
 obtain ⟨kt,et,hu,hkt,hz⟩ := gmapTy_inv ht
 unfold pmapget at h
 split at h
 case h_3 => cases h
 case h_1 =>
  split at h
  case h_2 => cases h
  split at h
  case isFalse => cases h
  rename_i hc
  simp only [Bool.and_eq_true,beq_iff_eq] at hc
  have := isMap_sz hc.1.1
  omega
 rename_i es
 rw [if_pos rfl] at h
 split at h
 case h_2 => cases h
 rename_i n
 simp only [Option.some.injEq] at h
 obtain ⟨b,ents,clock,rfl,h1,h3⟩:∃ b ents clock,vm = .map (some b) ∧ w.heap[b]? = some (.map ents clock) ∧ MapFits ents es := by
  cases hm with
  | gmap _ b ents clock h1 h2 h3 => exact ⟨b,ents,clock,rfl,h1,h3⟩
 have hk' := hk
 cases hk'
 have hkt2:keyTy P kt = some (2,[0]) := by unfold keyTy; rw [hkt]
 have hchk := checkKey_run (w := w) hkt2 (show keyEq 2 [0] (.int .i64 n) (.int .i64 n) = some (n == n) by simp [keyEq,flatEq1]) hk ents.isEmpty
 have hzr:∃ z,(zeroValue et).run P w = .ok z w ∧ RepV w g st zd z := by
  unfold zrOf at hz
  split at hz
  case h_2 => cases hz
  rename_i i hi
  split at hz
  case h_2 => cases hz
  rename_i z hzz
  exact ⟨z,by simp [zeroValue,typeInfo,hi,hzz],constD_rep hz⟩
 obtain ⟨z,hz1,hz2⟩ := hzr
 have tup2:∀ (x:D) (v:Value) (b:Bool),RepV w g st x v → RepV w g st (.tup [x,.bool b]) (.tuple #[v,.bool b]) := fun x v b hx => by
  refine .tup [x,.bool b] [v,.bool b] rfl fun i d u hd hu => ?_
  match i,hd,hu with
  | 0,hd,hu => simp at hd hu; subst hd; subst hu; exact hx
  | 1,hd,hu => simp at hd hu; subst hd; subst hu; exact .bool _
 have hfun:∀ f,f < 5000000 → RepV w g st (.agg [.clo f []]) (.agg #[.func (.func f) #[] #[]]) := fun f hf => by
  refine .agg [.clo f []] [.func (.func f) #[] #[]] rfl fun i d u hd hu => ?_
  match i,hd,hu with
  | 0,hd,hu =>
   simp at hd hu; subst hd; subst hu
   have := RepV.clo (w := w) (g := g) (st := st) f [] [] rfl (fun i d v h => by simp at h)
   rw [fnOf_lt hf,firstOf_nil,capsOf_nil] at this
   exact this
 have hfk:∀ r,Instr.findNow (.int .i64) (.int .i64 n) ents.toList 0 = some r → (Instr.findKey kt (.int .i64 n) ents.toList).run P w = .ok r w := fun r hr => by
  simp [Instr.findKey,run_underlying hkt,hr]
 rcases findNow_fit n ents.toList 0 h3.1 with ⟨j,f,h5,h6,h7⟩ | ⟨h5,h6⟩
 ·have h8 := hfk _ h5
  rw [h6] at h
  simp only at h
  cases ok with
  | true =>
   simp only [if_true] at h
   subst h
   exact ⟨.tuple #[.agg #[.func (.func f) #[] #[]],.bool true],by simp [Instr.lookup,run_underlying hu,MapKept.run_getObj_map h1,hchk,h8],tup2 _ _ _ (hfun f h7)⟩
  | false =>
   simp only [Bool.false_eq_true,if_false] at h
   subst h
   exact ⟨.agg #[.func (.func f) #[] #[]],by simp [Instr.lookup,run_underlying hu,MapKept.run_getObj_map h1,hchk,h8],hfun f h7⟩
 ·have h8 := hfk _ h5
  have hno:gfind n es = none := by
   cases hg:gfind n es with
   | none => rfl
   | some f =>
    obtain ⟨e,he,hke⟩ := h3.2 n f hg
    exact absurd hke (h6 e he)
  rw [hno] at h
  simp only at h
  cases ok with
  | true =>
   simp only [if_true] at h
   subst h
   exact ⟨.tuple #[z,.bool false],by simp [Instr.lookup,run_underlying hu,MapKept.run_getObj_map h1,hchk,h8,hz1],tup2 _ _ _ hz2⟩
  | false =>
   simp only [Bool.false_eq_true,if_false] at h
   subst h
   exact ⟨z,by simp [Instr.lookup,run_underlying hu,MapKept.run_getObj_map h1,hchk,h8,hz1],hz2⟩
theorem ent_mk {sz:Nat} {ks:List Nat} {k v:D} {b:Bool} (h:keyEq sz ks k k = some b) (hl:k.cells.length + 1 = sz):entK sz (.agg (k.cells ++ [v])) = k ∧ entV sz (.agg (k.cells ++ [v])) = v := by
 have e1:(k.cells ++ [v]).take (sz - 1) = k.cells := by rw [show sz - 1 = k.cells.length by omega]; simp
 have e2:(k.cells ++ [v]).drop (sz - 1) = [v] := by rw [show sz - 1 = k.cells.length by omega]; simp
 refine ⟨?_,by simp only [entV,e2]; rfl⟩
 simp only [entK,e1]
 unfold keyEq at h
 split at h
 ·rename_i e
  subst e
  split at h
  ·have hs := (flatEq1_simp h).1
   cases k <;> first | rfl | (simp [simp1] at hs; done)
  ·cases h
 ·rename_i e
  split at h
  ·simp [e,D.mk,D.cells]
  ·cases h
theorem notAgg {d:D} {v:Value} (h:RepV w g st d v) (hd:d.isCell = true):aggV v = false := by
 have := h.oneCell hd
 cases v <;> first | rfl | (simp [Value.oneCell'] at this; done)
theorem mapup_run (hS:SR base w g st) {t kt et:TypeId} {sz:Nat} {ks:List Nat} {m k v:D} {vm vk vv:Value} {st':St} (ht:mapTy P t = some (kt,et,sz,ks)) (hm:RepV w g st m vm) (hk:RepV w g st k vk) (hv:RepV w g st v vv)
  (h:pmapup st sz ks m k v = some st'):∃ w' g',(Instr.mapUpdate t vm vk vv).run P w = .ok () w' ∧ Go1 base w g st w' g' st' := by
 obtain ⟨hu,hkt,hns,_,_⟩ := mapTy_inv ht
 unfold pmapup at h
 split at h
 case h_2 => cases h
 rename_i key
 split at h
 case h_2 => cases h
 rename_i o ho
 split at h
 case isFalse => cases h
 rename_i hc
 simp only [Bool.and_eq_true,Bool.not_eq_true',beq_iff_eq] at hc
 obtain ⟨⟨⟨⟨⟨⟨_,rfl⟩,hlent⟩,hvc⟩,hl⟩,hall⟩,hkq⟩ := hc
 obtain ⟨hmap,rfl⟩ := map_inv ho hm
 obtain ⟨es,clock,h1,h2,h3,h4,h5,h5'⟩ := (hS.mp key o ho hmap).old (by first | exact hns | (simpa using hns))
 have hE := ents_of h3 h5
 have hchk := checkKey_run (w := w) hkt hkq hk false
 obtain ⟨k1,k2⟩ := ent_mk (v := v) hkq hl
 have hel:∃ l,(D.agg (k.cells ++ [v])) = .agg l ∧ l.length = o.sz := ⟨_,rfl,by rw [List.length_append]; exact hl⟩
 have hlt:g.β key < w.heap.size := (Array.getElem?_eq_some_iff.1 h1).1
 split at h
 ·rename_i i hi
  simp only [Option.some.injEq] at h
  subst h
  rcases findKey_run hkt hk hE hi with ⟨h6,_⟩ | ⟨j,e,h6,h7,h8,el',h9,h10⟩
  ·cases h6
  ·obtain rfl := Option.some.inj h6
   have h7':es[i]? = some e := by simpa using h7
   have hke:e.key = vk := (keyEq_true h10 hk (h5 i e el' h7' h9).1).symm
   have hst:(Instr.keyThatStays e.key vk).run P w = .ok vk w := by rw [hke]; exact keyStays_run hkq hk w
   refine ⟨_,g,?_,SR.updMap (o' := { o with els := o.els.set i (.agg (k.cells ++ [v])) }) (es' := es.modify i fun e => { e with key := vk,val := vv }) (clock' := clock) (w' := { w with heap := w.heap.setIfInBounds (g.β key) (.map (es.modify i fun e => { e with key := vk,val := vv }) clock) }) hS ho hmap hns rfl rfl (by simp) rfl
    ⟨rfl,rfl,rfl,by simp⟩ (fun b hb => (MapKept.heap_set h1).2 b hb) (MapKept.heap_set h1).1 (by simpa using h3) ?_ ?_ ?_⟩
   ·simp [Instr.mapUpdate,run_underlying hu,MapKept.run_getObj_map h1,hchk,h8,h7',hst,MapKept.run_setObj_map _ h1]
   ·intro x hx
    rcases List.mem_or_eq_of_mem_set hx with hx | rfl
    ·exact h4 x hx
    ·exact hel
   ·intro j e2 el2 he2 hel2
    rw [Array.getElem?_modify] at he2
    by_cases hij:i = j
    ·subst hij
     rw [if_pos rfl,h7'] at he2
     simp only [Option.map_some,Option.some.injEq] at he2
     subst he2
     have hil:i < o.els.length := (List.getElem?_eq_some_iff.1 h9).1
     simp only [List.getElem?_set_self hil,Option.some.injEq] at hel2
     subst hel2
     rw [k1,k2]
     exact ⟨hk,hv⟩
    ·rw [if_neg hij] at he2
     simp only [List.getElem?_set_ne hij] at hel2
     exact h5 j e2 el2 he2 hel2
   ·rw [spM_map] at h5' ⊢
    rw [Array.getElem?_modify]
    by_cases hij:i = 0
    ·subst hij
     rw [if_pos rfl,h7']
     exact notAgg hv hvc
    ·rw [if_neg hij]
     exact h5'
 ·rename_i hi
  simp only [Option.some.injEq] at h
  subst h
  rcases findKey_run hkt hk hE hi with ⟨_,h8⟩ | ⟨j,e,h6,_⟩
  ·refine ⟨_,g,?_,SR.updMap (o' := { o with els := o.els ++ [.agg (k.cells ++ [v])] }) (es' := es.push { key := vk,val := vv,born := clock }) (clock' := clock + 1) (w' := { w with heap := w.heap.setIfInBounds (g.β key) (.map (es.push { key := vk,val := vv,born := clock }) (clock + 1)) }) hS ho hmap hns rfl rfl (by simp) rfl
    ⟨rfl,rfl,rfl,by simp⟩ (fun b hb => (MapKept.heap_set h1).2 b hb) (MapKept.heap_set h1).1 (by simpa using h3) ?_ ?_ ?_⟩
   ·simp [Instr.mapUpdate,run_underlying hu,MapKept.run_getObj_map h1,hchk,h8,MapKept.run_setObj_map _ h1]
   ·intro x hx
    rcases List.mem_append.1 hx with hx | hx
    ·exact h4 x hx
    ·simp at hx; subst hx; exact hel
   ·intro j e2 el2 he2 hel2
    by_cases hj:j < es.size
    ·rw [Array.getElem?_push_lt hj] at he2
     simp only [List.getElem?_append_left (show j < o.els.length by omega)] at hel2
     exact h5 j e2 el2 (by rw [Array.getElem?_eq_getElem hj]; exact he2) hel2
    ·have hje:j = es.size := by
      have := (List.getElem?_eq_some_iff.1 hel2).1
      simp at this
      omega
     subst hje
     simp at he2
     subst he2
     rw [h3] at hel2
     simp only [List.getElem?_append_right (Nat.le_refl _),Nat.sub_self,List.getElem?_cons_zero,Option.some.injEq] at hel2
     subst hel2
     rw [k1,k2]
     exact ⟨hk,hv⟩
   ·rw [spM_map] at h5' ⊢
    by_cases hj:0 < es.size
    ·rw [Array.getElem?_push_lt hj]
     rw [Array.getElem?_eq_getElem hj] at h5'
     exact h5'
    ·have he:es = #[] := Array.eq_empty_of_size_eq_zero (by omega)
     subst he
     exact notAgg hv hvc
  ·cases h6
 ·cases h
theorem cpy_row (hS:SR base w g st) {dT sT ty elem:TypeId} {key tot off len:Nat} {s r:D} {vd vs:Value} {st':St} (hu:P.underlying dT = some (.slice elem)) (hsz:(P.info? elem).map (·.size) = some 1) (hd:RepV w g st (.row key tot off len) vd) (hs:RepV w g st s vs)
  (h:pcpyR st 1 key tot off len s = some (r,st')):RunsTo P base w g st (Builtin.copy_ #[dT,sT] ty #[vd,vs]) r st' := by
 unfold pcpyR at h
 split at h
 case h_2 => cases h
 rename_i o sz2 xs ho hxs
 split at h
 case isFalse => cases h
 rename_i hc
 simp only [Bool.and_eq_true,Bool.not_eq_true',beq_iff_eq,decide_eq_true_eq,Bool.or_eq_true,List.isEmpty_iff] at hc
 obtain ⟨⟨⟨⟨⟨⟨⟨⟨hrow,hlent⟩,htot⟩,hosz⟩,_⟩,hsz2⟩,hoff⟩,hstr⟩,hpos⟩ := hc
 simp only [Option.some.injEq,Prod.mk.injEq] at h
 obtain ⟨rfl,rfl⟩ := h
 obtain ⟨ob,h1,h2,h3,rfl,h5⟩ := live_row (by simp [live,ho,hrow,htot]) hd
 obtain rfl:ob = o := Option.some.inj (h1.symm.trans ho)
 obtain ⟨C,e,hb,hbase,hszp,hx,hC,hrep⟩ := hS.blk key ob ho (isMap_no_row hrow)
 rw [hrow] at hC
 simp only [if_true] at hC
 have hE:Els w g st vs 1 xs := by
  rcases elsOf_els hS hxs hs with h6 | ⟨s',rfl,_,_⟩
  ·exact h6.cast hsz2
  ·simp [isStr] at hstr
 obtain ⟨⟨a,cap,rfl,hsh⟩,hpure,hxl⟩ := hE
 have hmx:min len xs.length ≤ xs.length := Nat.min_le_right _ _
 have hml:min len xs.length ≤ len := Nat.min_le_left _ _
 have hnat:Nat.min xs.length len = min len xs.length := Nat.min_comm ..
 generalize min len xs.length = m at *
 have hxne:xs ≠ [] := by
  intro e1; subst e1; simp at hmx; omega
 obtain ⟨b,o2,rfl,_,hcell⟩ := hsh hxne
 have hat:∀ j,j < m → ∃ d u,cellAt xs j 0 = some d ∧ w.cell? ⟨b,o2 + j,none⟩ = some u ∧ RepV w g st d u ∧ u.oneCell' = true := by
  intro j hj
  have hjx:j < xs.length := by omega
  have hl1 := hxl xs[j] (List.getElem_mem hjx)
  have hd0:cellAt xs j 0 = some (xs[j].cells[0]'(by omega)) := cellAt_mk (List.getElem?_eq_getElem hjx) (List.getElem?_eq_getElem (by omega))
  obtain ⟨u,h6,h7,h8⟩ := hcell j 0 _ hd0
  rw [Nat.mul_one,Nat.add_zero] at h6
  exact ⟨_,u,hd0,h6,h7,h8⟩
 have hcs:∀ j:Nat,((List.range m).map fun j => (w.cell? ⟨b,o2 + j,none⟩).getD undef)[j]? = if j < m then w.cell? ⟨b,o2 + j,none⟩ else none := fun j => by
  rw [List.getElem?_map]
  split
  ·rename_i hj
   obtain ⟨_,u,_,h6,_⟩ := hat j hj
   rw [List.getElem?_range hj,h6,Option.map_some,h6]; rfl
  ·rename_i hj
   rw [List.getElem?_eq_none (by rw [List.length_range]; omega)]; rfl
 have hlen:((List.range m).map fun j => (w.cell? ⟨b,o2 + j,none⟩).getD undef).length = m := by rw [List.length_map,List.length_range]
 generalize ((List.range m).map fun j => (w.cell? ⟨b,o2 + j,none⟩).getD undef) = cs at hcs hlen
 have hone:∀ v ∈ cs,v.oneCell' = true := fun v hv => by
  obtain ⟨j,hj⟩ := List.mem_iff_getElem?.1 hv
  have hjl:j < m := by have := (List.getElem?_eq_some_iff.1 hj).1; omega
  rw [hcs,if_pos hjl] at hj
  obtain ⟨_,u,_,h6,_,h8⟩ := hat j hjl
  obtain rfl:v = u := Option.some.inj (hj.symm.trans h6)
  exact h8
 rw [hosz,Nat.mul_one] at hC
 rw [show off * ob.sz = off by rw [hosz,Nat.mul_one]]
 have hfit:off + cs.length ≤ C.size := by omega
 have hrun := run_copy_row P w dT sT ty elem (g.β key) off len (g.γ key - off) ⟨b,o2,none⟩ xs.length cap C e cs hu hsz hb (by rw [hlen]; exact hnat.symm) (fun j v hv => by
   rw [hcs] at hv
   split at hv
   ·rw [cell?_add]; simpa using hv
   ·cases hv) hfit hone
 have hxt:(xs.take m).length = m := by rw [List.length_take]; omega
 have hle3:off + (xs.take m).length ≤ ob.els.length := by omega
 have hsl := splice_length hle3
 have hget:∀ j y,(splice ob.els off (xs.take m))[j]? = some y → (off ≤ j ∧ j < off + m ∧ xs[j - off]? = some y) ∨ (¬ (off ≤ j ∧ j < off + m) ∧ ob.els[j]? = some y) := by
  intro j y hy
  rw [splice_get hle3,hxt] at hy
  split at hy
  ·rename_i hc
   rw [List.getElem?_take] at hy
   rw [if_pos (by omega)] at hy
   exact .inl ⟨hc.1,hc.2,hy⟩
  ·rename_i hc
   exact .inr ⟨hc,hy⟩
 refine ⟨_,_,{ g with β := upd g.β key (g.β key),γ := upd g.γ key (g.γ key) },hrun,?_,by simp only [goInt,hlen]; exact .int _ _⟩
 refine SR.update (o' := { ob with els := splice ob.els off (xs.take m) }) (c := g.γ key) hS ho (isMap_no_row hrow) hb (.inl ⟨rfl,rfl⟩) rfl rfl (by simp [hsl]) rfl ?_ (beside_setRow w _ _)
  (fun b' _ hne => setRow_other w _ _ _ (by omega)) (setRow_heap w _ C _ e _ hb) ?_ ?_ ?_
 ·intro y hy
  obtain ⟨j,hj⟩ := List.mem_iff_getElem?.1 hy
  rcases hget j y hj with ⟨_,_,h6⟩ | ⟨_,h6⟩
  ·rw [hosz]; exact hxl y (List.mem_of_getElem? h6)
  ·exact hx y (List.mem_of_getElem? h6)
 ·intro _ y hy
  have := (hS.dis key ob y ho hy).1
  rw [hlent] at this; cases this
 ·rw [hrow]
  simp only [if_true]
  exact ⟨by rw [hosz,Nat.mul_one,vsplice_size hfit,hC.1],by rw [hsl]; exact hC.2.1,hC.2.2⟩
 ·intro i j d hd1
  obtain ⟨y,hy,hdy⟩ := cellAt_some hd1
  have hj0:j = 0 := by
   have h7:y.cells.length = 1 := by
    rcases hget i y hy with ⟨_,_,h6⟩ | ⟨_,h6⟩
    ·exact hxl y (List.mem_of_getElem? h6)
    ·have := hx y (List.mem_of_getElem? h6); rw [hosz] at this; exact this
   have := (List.getElem?_eq_some_iff.1 hdy).1
   omega
  subst hj0
  rw [hosz,Nat.mul_one,Nat.add_zero,vsplice_get hfit,hlen]
  rcases hget i y hy with ⟨h6,h7,h8⟩ | ⟨h6,h7⟩
  ·rw [if_pos ⟨h6,h7⟩]
   have hc1 := cellAt_mk h8 hdy
   obtain ⟨d',u,h9,h10,h11,_⟩ := hat (i - off) (by omega)
   obtain rfl:d = d' := Option.some.inj (hc1.symm.trans h9)
   exact ⟨fun _ => hpure _ _ _ hc1,u,by rw [hcs,if_pos (by omega)]; exact h10,h11⟩
  ·rw [if_neg h6]
   have hc1 := cellAt_mk h7 hdy
   obtain ⟨h8,u,h9,h10⟩ := hrep i 0 d hc1
   rw [hosz,Nat.mul_one,Nat.add_zero] at h9
   exact ⟨h8,u,h9,h10⟩
theorem cpy_run (hS:SR base w g st) {dT sT ty elem:TypeId} {d s r:D} {vd vs:Value} {st':St} (hu:P.underlying dT = some (.slice elem)) (hs1:szOf P elem = some 1) (hd:RepV w g st d vd) (hs:RepV w g st s vs)
  (h:pcpy st 1 d s = some (r,st')):RunsTo P base w g st (Builtin.copy_ #[dT,sT] ty #[vd,vs]) r st' := by
 have hsz:(P.info? elem).map (·.size) = some 1 := hs1
 have hz0:∀ (a a':Option Addr) (c n' c':Nat),(Builtin.copy_ #[dT,sT] ty #[.slice a 0 c,.slice a' n' c']).run P w = .ok (goInt 0) w := fun a a' c n' c' => run_copy_none (P := P) w dT sT ty elem a a' 0 c n' c' hu hsz (Nat.min_zero _)
 have hz1:∀ (a a':Option Addr) (n c c':Nat),(Builtin.copy_ #[dT,sT] ty #[.slice a n c,.slice a' 0 c']).run P w = .ok (goInt 0) w := fun a a' n c c' => run_copy_none (P := P) w dT sT ty elem a a' n c 0 c' hu hsz (Nat.zero_min _)
 unfold pcpy at h
 split at h
 ·rename_i key off n sz1 _ key2 off2 n2 sz2 _
  split at h
  ·cases h
  rename_i hcond
  split at h
  case h_2 => cases h
  rename_i o o2 ho ho2
  split at h
  case isFalse => cases h
  rename_i hc
  simp only [Bool.and_eq_true,Bool.not_eq_true',decide_eq_true_eq,Nat.mul_one] at hc
  obtain ⟨⟨⟨⟨⟨hrow,hlent⟩,hrow2⟩,hle⟩,hle2⟩,hall⟩ := hc
  simp only [Option.some.injEq,Prod.mk.injEq,Nat.mul_one] at h
  obtain ⟨rfl,rfl⟩ := h
  cases hd with
  | bsl _ _ _ _ _ ob cap q1 q2 q3 _ =>
   obtain rfl:ob = o := Option.some.inj (q1.symm.trans ho)
   cases hs with
   | bsl _ _ _ _ _ ob2 cap2 u1 u2 u3 _ =>
    obtain rfl:ob2 = o2 := Option.some.inj (u1.symm.trans ho2)
    obtain ⟨C,e,hb,hbase,hszp,hx,hC,hrep⟩ := hS.blk key ob ho (isMap_no_one q3)
    obtain ⟨C2,e2,hb2,hbase2,hszp2,hx2,hC2,hrep2⟩ := hS.blk key2 ob2 ho2 (isMap_no_one u3)
    rw [hrow] at hC
    rw [hrow2] at hC2
    simp only [Bool.false_eq_true,if_false] at hC hC2
    obtain ⟨hC1,hC2',hC3⟩ := hC
    obtain ⟨hD1,_,hD3⟩ := hC2
    have hmin:Nat.min n2 n = min n n2 := Nat.min_comm ..
    generalize hm:min n n2 = mm at *
    have hxl:((ob2.els.drop off2).take mm).length = mm := by rw [List.length_take,List.length_drop]; omega
    have srcD:∀ j d,((ob2.els.drop off2).take mm)[j]? = some d → ∃ u,C2[off2 + j]? = some u ∧ RepV w g st d u ∧ d.cells = [d] ∧ u.oneCell' = true := fun j d hd => by
     obtain ⟨h6,_⟩ := drop_take_get hd
     have h7 := hD3 d (List.mem_of_getElem? h6)
     obtain ⟨_,u,h8,h9⟩ := hrep2 (off2 + j) 0 d (cellAt_mk h6 (by rw [h7]; rfl))
     rw [u3] at h8
     exact ⟨u,by simpa using h8,h9,h7,h9.oneCell (List.all_eq_true.1 hall d (List.mem_of_getElem? hd))⟩
    have hlen:((C2.toList.drop off2).take mm).length = mm := by
     rw [List.length_take,List.length_drop,Array.length_toList,hD1]; omega
    have hcs:∀ j:Nat,((C2.toList.drop off2).take mm)[j]? = if j < mm then C2[off2 + j]? else none := fun j => by
     rw [List.getElem?_take]
     split
     ·rw [List.getElem?_drop,Array.getElem?_toList]
     ·rfl
    generalize hcsd:(C2.toList.drop off2).take mm = cs at hlen hcs
    generalize hxsd:(ob2.els.drop off2).take mm = xs at *
    have hone:∀ v ∈ cs,v.oneCell' = true := fun v hv => by
     obtain ⟨j,hj⟩ := List.mem_iff_getElem?.1 hv
     have hjl:j < mm := by have := (List.getElem?_eq_some_iff.1 hj).1; omega
     rw [hcs,if_pos hjl] at hj
     obtain ⟨u,h8,_,_,h9⟩ := srcD j xs[j] (List.getElem?_eq_getElem (by omega))
     obtain rfl:v = u := Option.some.inj (hj.symm.trans h8)
     exact h9
    have hrun := run_copy_row P w dT sT ty elem (g.β key) off n cap ⟨g.β key2,off2,none⟩ n2 cap2 C e cs hu hsz hb (by rw [hlen]; exact hmin.symm) (fun j v hv => by
      rw [hcs] at hv
      split at hv
      ·rw [cell?_add]; simp only [World.cell?,hb2]; simpa using hv
      ·cases hv) (by rw [hlen,hC1]; exact hle) hone
    rw [hlen] at hrun
    have hle':off + cs.length ≤ C.size := by rw [hlen,hC1]; exact hle
    have hle3:off + xs.length ≤ ob.els.length := by rw [hxl]; exact hle
    have hsl := splice_length hle3
    have mem:∀ y ∈ splice ob.els off xs,y.cells = [y] := by
     intro y hy
     obtain ⟨j,hj⟩ := List.mem_iff_getElem?.1 hy
     rw [splice_get hle3] at hj
     split at hj
     ·obtain ⟨_,_,_,h8,_⟩ := srcD _ y hj
      exact h8
     ·exact hC3 y (List.mem_of_getElem? hj)
    have eo:({ row := false,sz := ob.sz,els := splice ob.els off xs,lent := ob.lent }:Obj) = { ob with els := splice ob.els off xs } := by rw [← hrow]
    refine ⟨_,_,{ g with β := upd g.β key (g.β key),γ := upd g.γ key (g.γ key) },hrun,?_,by simp only [goInt]; exact .int _ _⟩
    refine SR.update (o' := { ob with els := splice ob.els off xs }) (c := g.γ key) hS ho (isMap_no_one q3) hb (.inl ⟨rfl,rfl⟩) rfl rfl (by simp [hsl]) rfl (fun y hy => by rw [mem y hy,q3]; rfl) (beside_setRow w _ _)
     (fun b' _ hne => setRow_other w _ _ _ (by omega)) (by rw [← hlen]; exact setRow_heap w _ C _ e _ hb) ?_ ?_ ?_
    ·intro _ y hy
     have := (hS.dis key ob y ho hy).1
     rw [hlent] at this; cases this
    ·rw [hrow]
     simp only [Bool.false_eq_true,if_false]
     exact ⟨by rw [vsplice_size hle',hC1,hsl],q3,mem⟩
    ·intro i j d hd
     refine ⟨fun h => by simp [hrow] at h,?_⟩
     obtain ⟨y,hy,hdy⟩ := cellAt_some hd
     have h5 := mem y (List.mem_of_getElem? hy)
     rw [h5] at hdy
     cases j with
     | succ j => simp at hdy
     | zero =>
      simp only [List.getElem?_cons_zero,Option.some.injEq] at hdy
      subst hdy
      rw [q3,Nat.mul_one,Nat.add_zero,vsplice_get hle']
      rw [splice_get hle3] at hy
      rw [hlen]
      rw [hxl] at hy
      split at hy
      ·rename_i hc
       rw [if_pos hc]
       obtain ⟨u,h6,h7,_⟩ := srcD _ y hy
       rw [hcs,if_pos (by omega)]
       exact ⟨u,h6,h7⟩
      ·rename_i hc
       rw [if_neg hc]
       have h8 := hC3 y (List.mem_of_getElem? hy)
       obtain ⟨_,u,h6,h7⟩ := hrep i 0 y (cellAt_mk hy (by rw [h8]; rfl))
       rw [q3] at h6
       exact ⟨u,by simpa using h6,h7⟩
 ·simp only [Option.some.injEq,Prod.mk.injEq] at h
  obtain ⟨rfl,rfl⟩ := h
  cases hd with
  | slcE _ _ a cap _ =>
   cases hs with
   | bsl _ _ _ _ _ ob cap2 q1 q2 q3 _ =>
    exact ⟨goInt 0,w,g,hz0 _ _ _ _ _,Go1.refl hS,.int _ _⟩
  | slc _ _ _ _ _ _ _ h => exact absurd rfl h
 ·simp only [Option.some.injEq,Prod.mk.injEq] at h
  obtain ⟨rfl,rfl⟩ := h
  cases hs with
  | slcE _ _ a cap _ =>
   cases hd with
   | bsl _ _ _ _ _ ob cap2 q1 q2 q3 _ =>
    exact ⟨goInt 0,w,g,hz1 _ _ _ _ _,Go1.refl hS,.int _ _⟩
  | slc _ _ _ _ _ _ _ h => exact absurd rfl h
 ·simp only [Option.some.injEq,Prod.mk.injEq] at h
  obtain ⟨rfl,rfl⟩ := h
  cases hs with
  | slcE _ _ a cap _ =>
   cases hd with
   | slcE _ _ a2 cap2 _ =>
    exact ⟨goInt 0,w,g,hz0 _ _ _ _ _,Go1.refl hS,.int _ _⟩
   | slc _ _ _ _ _ _ _ h => exact absurd rfl h
  | slc _ _ _ _ _ _ _ h => exact absurd rfl h
 ·exact cpy_row hS hu hsz hd hs h
 ·cases h
end
end Go.Proofs.YtlleccmnjpcogaaDoor.PI
