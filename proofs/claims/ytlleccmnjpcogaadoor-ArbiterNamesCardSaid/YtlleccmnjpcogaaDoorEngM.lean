/-
  Each operation of the model does what its pure counterpart does: == on arrays and structs.
  Conditions: none; these are lemmas.
-/
import Derived.Test.YtlleccmnjpcogaaDoorEngL
import Derived.ChangeKeysEq
set_option linter.unusedVariables false
set_option linter.unusedSimpArgs false
namespace Go.Proofs.YtlleccmnjpcogaaDoor.PI
open Go Go.RowKit
def leafsF (lf:TypeId → Option (List Nat)) (P:Program):List Field → Nat → Option (List Nat)
 | [],_ => some []
 | f :: fs,off =>
  match lf f.type,agOf P f.type with
  | some l,some _ =>
   if f.name ≠ "_" ∧ f.offset = off ∧ szOf P f.type = some l.length ∧ 0 < l.length then (leafsF lf P fs (off + l.length)).map (l ++ ·) else none
  | _,_ => none
def leafs (P:Program):Nat → TypeId → Option (List Nat)
 | 0,_ => none
 | d + 1,t =>
  match P.underlying t with
  | some (.int _) => some [0]
  | some .bool => some [1]
  | some .string => some [2]
  | some (.array n e) =>
   match leafs P d e with
   | some l => if szOf P e = some l.length ∧ 0 < l.length then some (List.replicate n l).flatten else none
   | none => none
  | some (.struct fs) => if P.stoodInHeld t then none else leafsF (leafs P d) P fs.toList 0
  | _ => none
section
variable {P:Program} {w:World} {g:Ghost} {st:St}
def mkv (ag:Bool) (vs:List Value):Value := if ag then .agg vs.toArray else vs.headD undef
theorem flatEq_length:∀ {ks:List Nat} {xs ys:List D} {b:Bool},flatEq ks xs ys = some b → xs.length = ks.length ∧ ys.length = ks.length
 | [],[],[],_,_ => ⟨rfl,rfl⟩
 | q :: qs,x :: xs,y :: ys,b,h => by
  simp only [flatEq] at h
  split at h
  ·rename_i a b' h1 h2
   have := flatEq_length h2
   simp [this]
  ·cases h
 | [],[],_ :: _,_,h => by simp [flatEq] at h
 | [],_ :: _,_,_,h => by simp [flatEq] at h
 | _ :: _,[],_,_,h => by simp [flatEq] at h
 | _ :: _,_ :: _,[],_,h => by simp [flatEq] at h
theorem flatEq_append:∀ {k1 k2:List Nat} {xs ys:List D} {b:Bool},flatEq (k1 ++ k2) xs ys = some b →
  ∃ b1 b2,flatEq k1 (xs.take k1.length) (ys.take k1.length) = some b1 ∧ flatEq k2 (xs.drop k1.length) (ys.drop k1.length) = some b2 ∧ b = (b1 && b2)
 | [],k2,xs,ys,b,h => ⟨true,b,by simp [flatEq],by simpa using h,by simp⟩
 | q :: k1,k2,x :: xs,y :: ys,b,h => by
  simp only [List.cons_append,flatEq] at h
  split at h
  ·rename_i a b' h1 h2
   simp only [Option.some.injEq] at h
   obtain ⟨b1,b2,h3,h4,h5⟩ := flatEq_append h2
   refine ⟨a && b1,b2,by simp [flatEq,h1,h3],by simpa using h4,by rw [← h,h5,Bool.and_assoc]⟩
  ·cases h
 | _ :: _,_,[],_,_,h => by simp [flatEq] at h
 | _ :: _,_,_ :: _,[],_,h => by simp [flatEq] at h
def EqR (P:Program) (dd:Nat) (t:TypeId) (ks:List Nat):Prop :=
 ∀ (w:World) (g:Ghost) (st:St) (ag:Bool) (xs ys:List D) (vs us:List Value) (b:Bool),agOf P t = some ag → flatEq ks xs ys = some b → xs.length = vs.length → ys.length = us.length →
  (∀ (i:Nat) d v,xs[i]? = some d → vs[i]? = some v → RepV w g st d v) → (∀ (i:Nat) d v,ys[i]? = some d → us[i]? = some v → RepV w g st d v) →
  (Op.equalIn dd t (mkv ag vs) (mkv ag us)).run P w = .ok b w
theorem part_mkv {t:TypeId} {n off:Nat} {ag:Bool} {vs:List Value} (ha:agOf P t = some ag) (hn:szOf P t = some n) (hag:ag = false → n = 1) (hle:off + n ≤ vs.length) :
  (part t vs.toArray off).run P w = .ok (mkv ag ((vs.drop off).take n)) w := by
 cases ag with
 | true =>
  simp [part,isAgg_run ha,sizeOf_run hn,mkv]
 | false =>
  obtain rfl := hag rfl
  have h2:off < vs.length := by omega
  simp [part,isAgg_run ha,h2,mkv,List.take_one,List.head?_drop]
theorem leafs_one {d:Nat} {t:TypeId} {ks:List Nat} (h:leafs P d t = some ks) (ha:agOf P t = some false):ks.length = 1 := by
 cases d with
 | zero => cases h
 | succ d =>
  unfold leafs at h
  unfold agOf at ha
  cases hu:P.underlying t with
  | none => simp [hu] at ha
  | some u =>
   cases u <;> simp [hu] at ha h <;> (subst h; rfl)
theorem get_part {α:Type} {l:List α} {off n i:Nat} {x:α} (h:((l.drop off).take n)[i]? = some x):l[off + i]? = some x := by
 rw [List.getElem?_take] at h
 split at h
 ·rw [List.getElem?_drop] at h; exact h
 ·cases h
theorem eqFields_run (d dd:Nat) (hrec:∀ t ks,leafs P d t = some ks → EqR P dd t ks):∀ (fs:List Field) (off:Nat) (ks:List Nat) (w:World) (g:Ghost) (st:St) (xs ys:List D) (vs us:List Value) (b:Bool),
  leafsF (leafs P d) P fs off = some ks → flatEq ks (xs.drop off) (ys.drop off) = some b → xs.length = vs.length → ys.length = us.length →
  (∀ (i:Nat) d v,xs[i]? = some d → vs[i]? = some v → RepV w g st d v) → (∀ (i:Nat) d v,ys[i]? = some d → us[i]? = some v → RepV w g st d v) →
  (Op.eqFields dd vs.toArray us.toArray fs).run P w = .ok b w
 | [],off,ks,w,g,st,xs,ys,vs,us,b,h,he,hx,hy,rx,ry => by
  simp [leafsF] at h; subst h
  have := flatEq_length he
  match hxx:xs.drop off,hyy:ys.drop off with
  | [],[] => rw [hxx,hyy] at he; simp [flatEq] at he; subst he; simp [Op.eqFields]
  | _ :: _,_ => rw [hxx] at this; simp at this
  | [],_ :: _ => rw [hyy] at this; simp at this
 | f :: fs,off,ks,w,g,st,xs,ys,vs,us,b,h,he,hx,hy,rx,ry => by
  unfold leafsF at h
  split at h
  ·rename_i l ag hl hag
   split at h
   ·rename_i hc
    obtain ⟨hname,hoff,hsz,hpos⟩ := hc
    simp only [Option.map_eq_some_iff] at h
    obtain ⟨ks',hks,rfl⟩ := h
    obtain ⟨b1,b2,h1,h2,rfl⟩ := flatEq_append he
    have hlen := flatEq_length he
    simp only [List.length_drop,List.length_append] at hlen
    rw [List.drop_drop,List.drop_drop] at h2
    have hone:ag = false → l.length = 1 := fun e => leafs_one hl (by rw [hag,e])
    have p1 := part_mkv (P := P) (w := w) (off := off) hag hsz hone (vs := vs) (by omega)
    have p2 := part_mkv (P := P) (w := w) (off := off) hag hsz hone (vs := us) (by omega)
    have e1 := hrec f.type l hl w g st ag _ _ ((vs.drop off).take l.length) ((us.drop off).take l.length) b1 hag h1 (by simp [hx]) (by simp [hy])
     (fun i d v hd hv => rx _ d v (get_part hd) (get_part hv)) (fun i d v hd hv => ry _ d v (get_part hd) (get_part hv))
    have ih := eqFields_run d dd hrec fs (off + l.length) ks' w g st xs ys vs us b2 hks h2 hx hy rx ry
    simp only [Op.eqFields,hname,ne_eq,not_false_eq_true,if_true,Sem.run_bind,hoff,p1,p2,e1,Result.andThen_ok]
    cases b1
    ·simp
    ·simpa using ih
   ·cases h
  ·cases h
theorem replicate_succ_flatten (n:Nat) (l:List Nat):(List.replicate (n + 1) l).flatten = l ++ (List.replicate n l).flatten := by
 simp [List.replicate_succ]
theorem eqItems_run (dd:Nat) {e:TypeId} {l:List Nat} {ag:Bool} (hrec:EqR P dd e l) (hag:agOf P e = some ag) (hsz:szOf P e = some l.length) (hpos:0 < l.length) (hone:ag = false → l.length = 1):∀ (n k:Nat) (w:World) (g:Ghost) (st:St) (xs ys:List D) (vs us:List Value) (b:Bool),
  flatEq (List.replicate n l).flatten (xs.drop (k * l.length)) (ys.drop (k * l.length)) = some b → xs.length = vs.length → ys.length = us.length →
  (∀ (i:Nat) d v,xs[i]? = some d → vs[i]? = some v → RepV w g st d v) → (∀ (i:Nat) d v,ys[i]? = some d → us[i]? = some v → RepV w g st d v) →
  (Op.eqItems dd e l.length vs.toArray us.toArray (List.range' k n)).run P w = .ok b w
 | 0,k,w,g,st,xs,ys,vs,us,b,he,hx,hy,rx,ry => by
  simp only [List.replicate_zero,List.flatten_nil] at he
  have := flatEq_length he
  match hxx:xs.drop (k * l.length),hyy:ys.drop (k * l.length) with
  | [],[] => rw [hxx,hyy] at he; simp [flatEq] at he; subst he; simp [Op.eqItems]
  | _ :: _,_ => rw [hxx] at this; simp at this
  | [],_ :: _ => rw [hyy] at this; simp at this
 | n + 1,k,w,g,st,xs,ys,vs,us,b,he,hx,hy,rx,ry => by
  rw [replicate_succ_flatten] at he
  obtain ⟨b1,b2,h1,h2,rfl⟩ := flatEq_append he
  have hlen := flatEq_length he
  simp only [List.length_drop,List.length_append] at hlen
  rw [List.drop_drop,List.drop_drop] at h2
  have p1 := part_mkv (P := P) (w := w) (off := k * l.length) hag hsz hone (vs := vs) (by omega)
  have p2 := part_mkv (P := P) (w := w) (off := k * l.length) hag hsz hone (vs := us) (by omega)
  have e1 := hrec w g st ag _ _ ((vs.drop (k * l.length)).take l.length) ((us.drop (k * l.length)).take l.length) b1 hag h1 (by simp [hx]) (by simp [hy])
   (fun i d v hd hv => rx _ d v (get_part hd) (get_part hv)) (fun i d v hd hv => ry _ d v (get_part hd) (get_part hv))
  have ek:(k + 1) * l.length = k * l.length + l.length := by rw [Nat.add_mul,Nat.one_mul]
  have ih := eqItems_run dd hrec hag hsz hpos hone n (k + 1) w g st xs ys vs us b2 (by rw [ek]; exact h2) hx hy rx ry
  simp only [List.range'_succ,Op.eqItems,Sem.run_bind,p1,p2,e1,Result.andThen_ok]
  cases b1
  ·simp
  ·simpa using ih
theorem leafs_eq:∀ (d:Nat) (t:TypeId) (ks:List Nat),leafs P d t = some ks → ∀ dd,d ≤ dd → EqR P dd t ks
 | 0,_,_,h,_,_ => by cases h
 | d + 1,t,ks,h,dd,hdd => by
  intro w g st ag xs ys vs us b ha he hx hy rx ry
  obtain ⟨dd,rfl⟩:∃ e,dd = e + 1 := ⟨dd - 1,by omega⟩
  unfold leafs at h
  unfold agOf at ha
  have hrec:∀ t ks,leafs P d t = some ks → EqR P dd t ks := fun t ks h => leafs_eq d t ks h dd (by omega)
  have single:∀ q,ks = [q] → ∃ x y v u,xs = [x] ∧ ys = [y] ∧ vs = [v] ∧ us = [u] ∧ flatEq1 q x y = some b ∧ RepV w g st x v ∧ RepV w g st y u := by
   intro q hq
   subst hq
   have hl := flatEq_length he
   match xs,ys,vs,us,hx,hy,hl with
   | [x],[y],[v],[u],_,_,_ =>
    simp only [flatEq] at he
    split at he
    ·rename_i a b' h1 h2
     simp only [Option.some.injEq] at h2 he
     subst h2; subst he
     exact ⟨x,y,v,u,rfl,rfl,rfl,rfl,by simpa using h1,rx 0 x v rfl rfl,ry 0 y u rfl rfl⟩
    ·cases he
  cases hu:P.underlying t with
  | none => simp [hu] at ha
  | some k =>
   cases k with
   | int k =>
    simp only [hu,Option.some.injEq] at h ha
    subst ha
    obtain ⟨x,y,v,u,rfl,rfl,rfl,rfl,h1,r1,r2⟩ := single 0 h.symm
    unfold flatEq1 at h1
    split at h1 <;> simp_all
    obtain rfl := int_inv r1
    obtain rfl := int_inv r2
    simp only [mkv,Bool.false_eq_true,if_false,List.headD_cons]
    rw [run_equalIn_int w dd t _ k _ _ hu]
    simp_all
   | bool =>
    simp only [hu,Option.some.injEq] at h ha
    subst ha
    obtain ⟨x,y,v,u,rfl,rfl,rfl,rfl,h1,r1,r2⟩ := single 1 h.symm
    unfold flatEq1 at h1
    split at h1 <;> simp_all
    obtain rfl := bool_inv r1
    obtain rfl := bool_inv r2
    simp only [mkv,Bool.false_eq_true,if_false,List.headD_cons]
    rw [run_equalIn_bool w dd t _ _ hu]
    simp_all
   | string =>
    simp only [hu,Option.some.injEq] at h ha
    subst ha
    obtain ⟨x,y,v,u,rfl,rfl,rfl,rfl,h1,r1,r2⟩ := single 2 h.symm
    unfold flatEq1 at h1
    split at h1 <;> simp_all
    obtain rfl := str_inv r1
    obtain rfl := str_inv r2
    simp only [mkv,Bool.false_eq_true,if_false,List.headD_cons]
    rw [run_equalIn_string w dd t _ _ hu,toList_mk,toList_mk]
    simp_all
   | array n e =>
    simp only [hu,Option.some.injEq] at h ha
    subst ha
    split at h
    ·rename_i l hl
     split at h
     ·rename_i hc
      simp only [Option.some.injEq] at h; subst h
      obtain ⟨hsz,hpos⟩ := hc
      have hi:∃ i,P.info? e = some i := by
       unfold szOf at hsz
       cases hi:P.info? e with
       | none => simp [hi] at hsz
       | some i => exact ⟨i,rfl⟩
      obtain ⟨i,hi⟩ := hi
      have hcells:P.cellsOf e = l.length := by
       unfold szOf at hsz
       unfold Program.cellsOf
       rw [hsz]; rfl
      have hag:∃ ag,agOf P e = some ag := by
       cases d with
       | zero => cases hl
       | succ d =>
        unfold leafs at hl
        unfold agOf
        cases hu':P.underlying e with
        | none => simp [hu'] at hl
        | some q => cases q <;> simp
      obtain ⟨ag,hag⟩ := hag
      have hone:ag = false → l.length = 1 := fun e' => leafs_one hl (by rw [hag,e'])
      have := eqItems_run dd (hrec e l hl) hag hsz hpos hone n 0 w g st xs ys vs us b (by simpa using he) hx hy rx ry
      simp only [mkv,if_true]
      rw [run_equalIn_array w dd _ _ hu hi,hcells,List.range_eq_range']
      exact this
     ·cases h
    ·cases h
   | struct fs =>
    simp only [hu,Option.some.injEq] at h ha
    subst ha
    split at h
    ·cases h
    ·rename_i hst
     have hf:P.fieldsOf t = fs := by simp [Program.fieldsOf,hu]
     have := eqFields_run d dd hrec fs.toList 0 ks w g st xs ys vs us b h (by simpa using he) hx hy rx ry
     simp only [mkv,if_true]
     rw [run_equalIn_struct w dd t _ _ (by rw [hf]; exact hu) (by simpa using hst),hf]
     exact this
   | _ => simp [hu] at h
theorem paeq_run {t:TypeId} {d:Nat} {ks:List Nat} {neg:Bool} {x y r:D} {vx vy:Value} (hl:leafs P d t = some ks) (hd:d ≤ 10000) (ha:agOf P t = some true) (h:paeq ks neg x y = some r) (hx:RepV w g st x vx) (hy:RepV w g st y vy) :
  (∃ v,(binOp (if neg then .neq else .eql) t vx vy).run P w = .ok v w ∧ RepV w g st r v) ∧ ∃ xs ys,vx = .agg xs ∧ vy = .agg ys := by
 unfold paeq at h
 split at h
 ·rename_i xs ys
  simp only [Option.map_eq_some_iff] at h
  obtain ⟨b,hb,rfl⟩ := h
  cases hx with
  | agg _ vs h1 h2 =>
   cases hy with
   | agg _ us h3 h4 =>
    refine ⟨?_,_,_,rfl,rfl⟩
    have e:(Op.equal t (.agg vs.toArray) (.agg us.toArray)).run P w = .ok b w := leafs_eq d t ks hl 10000 hd w g st true xs ys vs us b ha hb h1 h3 h2 h4
    refine ⟨.bool (b != neg),?_,.bool _⟩
    cases neg <;> simp [binOp,e]
 ·cases h
end
end Go.Proofs.YtlleccmnjpcogaaDoor.PI
