/-
  The arguments read the same behind the call; from a contract of the law's function to what its row asks.
  Conditions: none; these are lemmas.
-/
import Derived.Test.YtlleccmnjpcogaaDoorEngT
import Derived.ChangeSame
set_option linter.unusedVariables false
set_option linter.unusedSimpArgs false
namespace Go.Proofs.YtlleccmnjpcogaaDoor.PI
open Go Go.RowKit Go.ChangeShapes
section
variable {H:Type} {enc:TypeId × Value → H} {P:Program} {W W':World}
theorem mapM_same {α β:Type} {f g:α → Option β}:∀ {l:List α} {r:List β},l.mapM f = some r → (∀ x y,x ∈ l → y ∈ r → f x = some y → g x = some y) → l.mapM g = some r
 | [],r,h,_ => by simpa using h
 | a :: l,r,h,hg => by
  simp only [List.mapM_cons,Option.bind_eq_bind,Option.bind_eq_some_iff,Option.pure_def,Option.some.injEq] at h ⊢
  obtain ⟨b,hb,r',hr',rfl⟩ := h
  exact ⟨b,hg a b (by simp) (by simp) hb,r',mapM_same hr' (fun x y hx hy => hg x y (by simp [hx]) (by simp [hy])),rfl⟩
theorem cell?_below (hb:Below W.heap.size W W') {a:Addr} {v:Value} (h:W.cell? a = some v):W'.cell? a = some v := by
 have hlt := World.block_lt_of_cell? W a h
 rw [← h]
 simp only [World.cell?,hb.block a.block hlt]
theorem cells?_below (hb:Below W.heap.size W W') {b:Nat} {a:Addr} {n:Nat} {cs:List Value} (h:W.cells? b a n = some cs):W'.cells? b a n = some cs := by
 unfold World.cells? at h ⊢
 split at h
 ·rename_i h0
  rw [if_pos h0]
  exact mapM_same h fun x y _ _ hx => cell?_below hb hx
 ·cases h
theorem clos_below (hb:Below W.heap.size W W') {S:List TypeId} (hS:closed P S = true):∀ (fuel:Nat) (t:TypeId),t ∈ S → ∀ (cs:List Value) (x:DataW H × List MemPlace),DataW.trod enc P W 0 (fun _ => true) true fuel t cs = some x →
  ∀ sp':Nat → Bool,(∀ p ∈ x.2,sp' p.block = true) → DataW.trod enc P W' 0 sp' true fuel t cs = some x
 | 0,t,_ => by intro cs x hx; simp [DataW.trod] at hx
 | fuel + 1,t,ht => by
  have ih := clos_below hb hS fuel
  intro cs x hx sp' hsp
  have hc:closedIn P S t = true := List.all_eq_true.1 hS t ht
  unfold closedIn at hc
  split at hc
  ·rename_i hu
   unfold DataW.trod at hx ⊢
   rw [hu] at hx ⊢
   split at hx <;> simp_all
  ·rename_i k hu
   unfold DataW.trod at hx ⊢
   rw [hu] at hx ⊢
   split at hx <;> simp_all
  ·rename_i hu
   unfold DataW.trod at hx ⊢
   rw [hu] at hx ⊢
   split at hx <;> simp_all
  ·rename_i e hu
   simp only [Bool.and_eq_true,List.contains_iff_mem,decide_eq_true_eq,beq_iff_eq] at hc
   obtain ⟨⟨hin,hpos⟩,_⟩ := hc
   have hone:∀ (b:Addr) (y:DataW H × List MemPlace),(∀ p ∈ y.2,sp' p.block = true) → (W.cells? 0 b (P.cellsOf e)).bind (DataW.trod enc P W 0 (fun _ => true) true fuel e) = some y → (W'.cells? 0 b (P.cellsOf e)).bind (DataW.trod enc P W' 0 sp' true fuel e) = some y := by
    intro b y hy h1
    simp only [Option.bind_eq_some_iff] at h1 ⊢
    obtain ⟨cs',h2,h3⟩ := h1
    exact ⟨cs',cells?_below hb h2,ih e hin cs' y h3 sp' hy⟩
   unfold DataW.trod at hx ⊢
   rw [hu] at hx ⊢
   split at hx
   all_goals try (first | (rename_i heq _; cases heq; done) | (rename_i heq; cases heq; done))
   all_goals try (simp_all; done)
   rename_i e' a len cap heq
   cases heq
   simp only [if_true] at hx ⊢
   split at hx
   case isFalse => cases hx
   rename_i hbase
   rw [if_pos hbase]
   simp only [Option.bind_eq_some_iff,Option.map_eq_some_iff] at hx ⊢
   obtain ⟨elems,h1,rest,h2,rfl⟩ := hx
   have hle:elems.length = len := by simpa using Lib.mapM_length h1
   have hlr:rest.length = cap - len := by simpa using Lib.mapM_length h2
   have hin:∀ y ∈ elems ++ rest,∀ p ∈ y.2,sp' p.block = true := fun y hy p hp => hsp p (by
    simp only [List.mem_append,List.mem_flatMap]
    refine .inr ⟨y,?_,hp⟩
    simpa using hy)
   refine ⟨elems,mapM_same h1 (fun i y _ hy hi => hone _ y (hin y (by simp [hy])) hi),rest,?_,rfl⟩
   rcases Nat.eq_zero_or_pos cap with h0 | h0
   ·have:cap - len = 0 := by omega
    have hr0:rest = [] := List.eq_nil_of_length_eq_zero (by omega)
    rw [this,hr0]
    split <;> rfl
   ·have hblk:sp' a.block = true := hsp (.cell a.block (a.off + 0)) (by
     simp only [List.mem_append]
     left
     simp only [MemPlace.row,List.mem_map,List.mem_range]
     refine ⟨0,?_,rfl⟩
     have:elems.length + rest.length = cap := by omega
     rw [this]
     exact Nat.mul_pos h0 hpos)
    rw [if_pos hblk]
    exact mapM_same h2 (fun i y _ hy hi => hone _ y (hin y (by simp [hy])) hi)
  ·rename_i fs hu
   simp only [Bool.and_eq_true,List.all_eq_true,List.contains_iff_mem] at hc
   unfold DataW.trod at hx ⊢
   rw [hu] at hx ⊢
   simp only at hx ⊢
   split at hx
   case isFalse => cases hx
   rename_i hl
   rw [if_pos hl]
   simp only [Option.map_eq_some_iff] at hx ⊢
   obtain ⟨ys,hys,rfl⟩ := hx
   refine ⟨ys,mapM_same hys (fun f y hf hy hi => ?_),rfl⟩
   exact ih f.type (hc.1 f hf) _ y hi sp' fun p hp => hsp p (by simp only [List.mem_flatMap]; exact ⟨y,hy,hp⟩)
  ·rename_i m e hu
   simp only [Bool.and_eq_true,List.contains_iff_mem,beq_iff_eq] at hc
   unfold DataW.trod at hx ⊢
   rw [hu] at hx ⊢
   simp only at hx ⊢
   split at hx
   case isFalse => cases hx
   rename_i hl
   rw [if_pos hl]
   simp only [Option.map_eq_some_iff] at hx ⊢
   obtain ⟨ys,hys,rfl⟩ := hx
   refine ⟨ys,mapM_same hys (fun i y _ hy hi => ?_),rfl⟩
   exact ih e hc.1 _ y hi sp' fun p hp => hsp p (by simp only [List.mem_flatMap]; exact ⟨y,hy,hp⟩)
  ·cases hc
theorem trod_below (hb:Below W.heap.size W W'):∀ (n:Nat) (t:TypeId) (ty:Ty),tyOf P n t = some ty → ∀ (fuel:Nat) (cs:List Value) (x:DataW H × List MemPlace),DataW.trod enc P W 0 (fun _ => true) true fuel t cs = some x →
  ∀ sp':Nat → Bool,(∀ p ∈ x.2,sp' p.block = true) → DataW.trod enc P W' 0 sp' true fuel t cs = some x
 | 0,_,_,h => by simp [tyOf] at h
 | n + 1,t,ty,h => by
  have ih := trod_below hb n
  intro fuel cs x hx sp' hsp
  unfold tyOf at h
  cases fuel with
  | zero => simp [DataW.trod] at hx
  | succ fuel =>
  split at h
  ·rename_i hu
   unfold DataW.trod at hx ⊢
   rw [hu] at hx ⊢
   split at hx <;> simp_all
  ·rename_i k hu
   unfold DataW.trod at hx ⊢
   rw [hu] at hx ⊢
   split at hx <;> simp_all
  ·rename_i hu
   unfold DataW.trod at hx ⊢
   rw [hu] at hx ⊢
   split at hx <;> simp_all
  ·rename_i e hu
   split at h
   case h_2 =>
    split at h
    case isFalse => cases h
    rename_i hcl
    simp only [Bool.and_eq_true,List.contains_iff_mem] at hcl
    exact clos_below hb hcl.1 (fuel + 1) t hcl.2 cs x hx sp' hsp
   rename_i ex hex
   split at h
   case isFalse => cases h
   rename_i hc
   simp only [Bool.and_eq_true,beq_iff_eq,decide_eq_true_eq] at hc
   have hpos:0 < P.cellsOf e := by rw [hc.1]; exact hc.2
   have hone:∀ (b:Addr) (y:DataW H × List MemPlace),(∀ p ∈ y.2,sp' p.block = true) → (W.cells? 0 b (P.cellsOf e)).bind (DataW.trod enc P W 0 (fun _ => true) true fuel e) = some y → (W'.cells? 0 b (P.cellsOf e)).bind (DataW.trod enc P W' 0 sp' true fuel e) = some y := by
    intro b y hy h1
    simp only [Option.bind_eq_some_iff] at h1 ⊢
    obtain ⟨cs',h2,h3⟩ := h1
    exact ⟨cs',cells?_below hb h2,ih e ex hex fuel cs' y h3 sp' hy⟩
   unfold DataW.trod at hx ⊢
   rw [hu] at hx ⊢
   split at hx
   all_goals try (first | (rename_i heq _; cases heq; done) | (rename_i heq; cases heq; done))
   all_goals try (simp_all; done)
   rename_i e' a len cap heq
   cases heq
   simp only [if_true] at hx ⊢
   split at hx
   case isFalse => cases hx
   rename_i hbase
   rw [if_pos hbase]
   simp only [Option.bind_eq_some_iff,Option.map_eq_some_iff] at hx ⊢
   obtain ⟨elems,h1,rest,h2,rfl⟩ := hx
   have hle:elems.length = len := by simpa using Lib.mapM_length h1
   have hlr:rest.length = cap - len := by simpa using Lib.mapM_length h2
   have hin:∀ y ∈ elems ++ rest,∀ p ∈ y.2,sp' p.block = true := fun y hy p hp => hsp p (by
    simp only [List.mem_append,List.mem_flatMap]
    refine .inr ⟨y,?_,hp⟩
    simpa using hy)
   refine ⟨elems,mapM_same h1 (fun i y _ hy hi => hone _ y (hin y (by simp [hy])) hi),rest,?_,rfl⟩
   rcases Nat.eq_zero_or_pos cap with h0 | h0
   ·have:cap - len = 0 := by omega
    have hr0:rest = [] := List.eq_nil_of_length_eq_zero (by omega)
    rw [this,hr0]
    split <;> rfl
   ·have hblk:sp' a.block = true := hsp (.cell a.block (a.off + 0)) (by
     simp only [List.mem_append]
     left
     simp only [MemPlace.row,List.mem_map,List.mem_range]
     refine ⟨0,?_,rfl⟩
     have:elems.length + rest.length = cap := by omega
     rw [this]
     exact Nat.mul_pos h0 hpos)
    rw [if_pos hblk]
    exact mapM_same h2 (fun i y _ hy hi => hone _ y (hin y (by simp [hy])) hi)
  ·rename_i fs hu
   split at h
   case h_2 => cases h
   rename_i ts hts
   unfold DataW.trod at hx ⊢
   rw [hu] at hx ⊢
   simp only at hx ⊢
   split at hx
   case isFalse => cases hx
   rename_i hl
   rw [if_pos hl]
   simp only [Option.map_eq_some_iff] at hx ⊢
   obtain ⟨ys,hys,rfl⟩ := hx
   have hall:∀ f ∈ fs.toList,∃ ty,tyOf P n f.type = some ty := by
    clear hys hl hu h
    generalize fs.toList = l at hts
    induction l generalizing ts with
    | nil => intro f hf; cases hf
    | cons f0 l ihl =>
     unfold tysOf at hts
     split at hts
     ·rename_i t0 ts0 h0 h1
      intro f hf
      rcases List.mem_cons.1 hf with rfl | hf
      ·exact ⟨_,h0⟩
      ·exact ihl _ h1 f hf
     ·cases hts
   refine ⟨ys,mapM_same hys (fun f y hf hy hi => ?_),rfl⟩
   obtain ⟨ty',hty⟩ := hall f hf
   exact ih f.type ty' hty fuel _ y hi sp' fun p hp => hsp p (by simp only [List.mem_flatMap]; exact ⟨y,hy,hp⟩)
  ·rename_i m e hu
   split at h
   case h_2 => cases h
   rename_i ex hex
   unfold DataW.trod at hx ⊢
   rw [hu] at hx ⊢
   simp only at hx ⊢
   split at hx
   case isFalse => cases hx
   rename_i hl
   rw [if_pos hl]
   simp only [Option.map_eq_some_iff] at hx ⊢
   obtain ⟨ys,hys,rfl⟩ := hx
   refine ⟨ys,mapM_same hys (fun i y _ hy hi => ?_),rfl⟩
   exact ih e ex hex fuel _ y hi sp' fun p hp => hsp p (by simp only [List.mem_flatMap]; exact ⟨y,hy,hp⟩)
  ·cases h
theorem trodAll_below (hb:Below W.heap.size W W') {n:Nat}:∀ (ts:List TypeId) (tys:List Ty) (vs:List Value) (ds:List (DataW H)) (ps:List MemPlace),ts.mapM (tyOf P n) = some tys → DataW.TrodAll enc P W 0 (fun _ => true) true ts vs ds ps →
  ∀ sp':Nat → Bool,(∀ p ∈ ps,sp' p.block = true) → DataW.TrodAll enc P W' 0 sp' true ts vs ds ps
 | [],_,[],[],ps,_,h => fun _ _ => h
 | t :: ts,tys,v :: vs,d :: ds,ps,ht,h => by
  intro sp' hsp
  simp only [List.mapM_cons,Option.bind_eq_bind,Option.bind_eq_some_iff,Option.pure_def,Option.some.injEq] at ht
  obtain ⟨ty,h1,tys',h2,rfl⟩ := ht
  obtain ⟨p,q,⟨fuel,h3⟩,h4,rfl⟩ := h
  exact ⟨p,q,⟨fuel,trod_below hb n t ty h1 fuel _ _ h3 sp' (fun x hx => hsp x (by simp [hx]))⟩,trodAll_below hb ts tys' vs ds q h2 h4 sp' (fun x hx => hsp x (by simp [hx])),rfl⟩
 | [],_,_ :: _,_,_,_,h => by cases h
 | [],_,[],_ :: _,_,_,h => by cases h
 | _ :: _,_,[],_,_,_,h => by cases h
 | _ :: _,_,_ :: _,[],_,_,h => by cases h
theorem val_reads {sp:Nat → Bool} {n:Nat} {t:TypeId} {ty:Ty} {v:Value} {d:DataW H} {ps:List MemPlace} (ht:tyOf P n t = some ty) (hv:Value.okWide P W .any 0 t v) (h:DataW.Trod enc P W 0 sp true t v d ps) :
  ∃ x,Has ty x ∧ (RepV W (ghost0 W) [] x v ∧ purA x = true) ∧ wt x ≤ blk d := by
 obtain ⟨fuel,h⟩ := h
 obtain ⟨x,h1,h2,h3,h4,h5⟩ := ty_reads n t ty ht fuel _ _ h
 refine ⟨x,h1,?_,h5⟩
 have hcell:(∀ cs,v ≠ .agg cs) → x.pure1 = true → RepV W (ghost0 W) [] x v ∧ purA x = true := by
  intro hna hp
  have hvc:v.cells = #[v] := by cases v <;> first | rfl | exact absurd rfl (hna _)
  rw [pure1_cells hp,hvc] at h2
  refine ⟨h2.2.1 0 x v rfl rfl,?_⟩
  cases x <;> first | exact hp | (simp [D.pure1] at hp; done)
 have hagg:∀ cs l,v = .agg cs → x = .agg l → RepV W (ghost0 W) [] x v ∧ purA x = true := by
  intro cs l e1 e2
  subst e1; subst e2
  refine ⟨?_,?_⟩
  ·have := RepV.agg (w := W) (g := ghost0 W) (st := []) l cs.toList (by simpa [D.cells,Value.cells] using h2.1) (fun i d u hd hu => h2.2.1 i d u hd (by simpa [Value.cells] using hu))
   rwa [Array.toArray_toList] at this
  ·simp only [purA,List.all_eq_true]
   exact h2.2.2
 unfold Value.okWide at hv
 cases n with
 | zero => simp [tyOf] at ht
 | succ n =>
 unfold tyOf at ht
 split at ht
 ·rename_i hu
  simp only [Option.some.injEq] at ht; subst ht
  cases h1
  exact hcell (fun cs e => by subst e; simp [hu,Cell.okWide,Cell.ok] at hv) rfl
 ·rename_i k hu
  simp only [Option.some.injEq] at ht; subst ht
  cases h1
  exact hcell (fun cs e => by subst e; simp [hu,Cell.okWide,Cell.ok] at hv) rfl
 ·rename_i hu
  simp only [Option.some.injEq] at ht; subst ht
  cases h1
  exact hcell (fun cs e => by subst e; simp [hu,Cell.okWide,Cell.ok] at hv) rfl
 ·rename_i e hu
  split at ht
  case h_2 =>
   split at ht
   case isFalse => cases ht
   simp only [Option.some.injEq] at ht; subst ht
   cases h1
   exact hcell (fun cs e => by subst e; simp [hu,Cell.okWide,Cell.ok] at hv) rfl
  split at ht
  case isFalse => cases ht
  simp only [Option.some.injEq] at ht; subst ht
  cases h1
  exact hcell (fun cs e => by subst e; simp [hu,Cell.okWide,Cell.ok] at hv) rfl
 ·rename_i fs hu
  split at ht
  case h_2 => cases ht
  split at ht
  case isFalse => cases ht
  simp only [Option.some.injEq] at ht; subst ht
  simp only [hu] at hv
  obtain ⟨cs,rfl,_,_⟩ := hv
  cases h1 with
  | agg _ xs _ _ => exact hagg cs _ rfl rfl
 ·rename_i m e hu
  split at ht
  case h_2 => cases ht
  split at ht
  case isFalse => cases ht
  simp only [Option.some.injEq] at ht; subst ht
  simp only [hu] at hv
  obtain ⟨cs,rfl,_,_⟩ := hv
  cases h1 with
  | agg _ xs _ _ => exact hagg cs _ rfl rfl
 ·cases ht
inductive HasAll:List Ty → List D → Prop
 | nil:HasAll [] []
 | cons {t:Ty} {ts:List Ty} {x:D} {xs:List D}:Has t x → HasAll ts xs → HasAll (t :: ts) (x :: xs)
theorem vals_read {sp:Nat → Bool} {n:Nat}:∀ (ts:List TypeId) (tys:List Ty) (vs:List Value) (ds:List (DataW H)) (ps:List MemPlace),ts.mapM (tyOf P n) = some tys → (∀ (j:Nat) t v,ts[j]? = some t → vs[j]? = some v → Value.okWide P W .any 0 t v) → DataW.TrodAll enc P W 0 sp true ts vs ds ps →
  ∃ xs,HasAll tys xs ∧ xs.length = vs.length ∧ (∀ (i:Nat) d v,xs[i]? = some d → vs[i]? = some v → RepV W (ghost0 W) [] d v) ∧ (∀ d ∈ xs,purA d = true) ∧ wts xs ≤ blks ds
 | [],tys,[],[],ps,ht,_,_ => by
  simp at ht; subst ht
  exact ⟨[],.nil,rfl,fun i d v h => by simp at h,(fun d h => by cases h),by simp [wts]⟩
 | t :: ts,tys,v :: vs,d :: ds,ps,ht,hv,h => by
  simp only [List.mapM_cons,Option.bind_eq_bind,Option.bind_eq_some_iff,Option.pure_def,Option.some.injEq] at ht
  obtain ⟨ty,h1,tys',h2,rfl⟩ := ht
  obtain ⟨p,q,h3,h4,rfl⟩ := h
  obtain ⟨x,x1,⟨x2,x3⟩,x5⟩ := val_reads h1 (hv 0 t v rfl rfl) h3
  obtain ⟨xs,y1,y2,y3,y4,y5⟩ := vals_read ts tys' vs ds q h2 (fun j t v ht hv' => hv (j + 1) t v (by simpa using ht) (by simpa using hv')) h4
  refine ⟨x :: xs,.cons x1 y1,by simp [y2],?_,?_,?_⟩
  ·intro i d v hd hv'
   cases i with
   | zero => simp at hd hv'; subst hd; subst hv'; exact x2
   | succ i => simp at hd hv'; exact y3 i d v hd hv'
  ·intro d hd
   rcases List.mem_cons.1 hd with rfl | hd
   ·exact x3
   ·exact y4 d hd
  ·simp only [wts,blks]; omega
 | [],_,_ :: _,_,_,_,_,h => by cases h
 | [],_,[],_ :: _,_,_,_,h => by cases h
 | _ :: _,_,[],_,_,_,_,h => by cases h
 | _ :: _,_,_ :: _,[],_,_,_,h => by cases h
theorem law_contractU {G:Glob} {K n N:Nat} {fn:Func} {sp:List D → Option D} {tys:List Ty} {s:ChangeSpec} (hC:Contract P G K sp) (hty:fn.params.toList.mapM (tyOf P n) = some tys) (hvars:s.vars = [])
  (hrt:∃ tb,fn.resultTypes = #[tb] ∧ P.underlying tb = some .bool)
  (hfn:∀ (H:Type) (ds:List (DataW H)),ds.length = fn.params.size → (s.fn H ds).results = [.lit (.bool true)] ∧ (s.fn H ds).args = ds ∧ (s.fn H ds).vars = [])
  (hsp:∀ xs,HasAll tys xs → wts xs ≤ N → sp xs = some (.bool true))
  {args:Array Value} {ds gs:List (DataW H)} {before:List MemPlace} (hG:GlobOK G W (ghost0 W)) (hN:blks ds ≤ N)
  (hval:∀ (j:Nat) t v,fn.params[j]? = some t → args[j]? = some v → Value.okWide P W .any 0 t v)
  (hW:DataW.Whole enc P fn.params.toList s.vars false W args.toList ds gs before) :
  Calls P K args W fun e W' => ∃ v,e = .returned v ∧ s.post enc P fn false true false false W args v W' := by
 obtain ⟨tb,hrt,hub⟩ := hrt
 have hW' := hW
 obtain ⟨p,q,hA,hV,rfl,hfz,hnd⟩ := hW
 rw [hvars] at hV
 have hV':gs = [] ∧ q = [] := by
  cases gs with
  | nil => exact ⟨rfl,hV⟩
  | cons a l => cases hV
 obtain ⟨rfl,rfl⟩ := hV'
 obtain ⟨xs,x1,x2,x3,x4,x5⟩ := vals_read fn.params.toList tys args.toList ds p hty (fun j t v ht hv => hval j t v (by simpa using ht) (by simpa using hv)) hA
 have hlen:∀ (ts:List TypeId) (vs:List Value) (ds:List (DataW H)) (ps:List MemPlace),DataW.TrodAll enc P W 0 (fun _ => true) true ts vs ds ps → ds.length = ts.length := by
  intro ts
  induction ts with
  | nil => intro vs ds ps h; cases vs <;> cases ds <;> first | rfl | cases h
  | cons t ts ih =>
   intro vs ds ps h
   cases vs with
   | nil => cases h
   | cons v vs =>
    cases ds with
    | nil => cases h
    | cons d ds =>
     obtain ⟨_,_,_,h4,_⟩ := h
     simp [ih vs ds _ h4]
 have hdl:ds.length = fn.params.size := by simpa using hlen _ _ _ _ hA
 have hc := hC W (ghost0 W) xs args.toList (.bool true) (hsp xs x1 (Nat.le_trans x5 hN)) hG (fun b o h => h) x2 x3 x4
 rw [Array.toArray_toList] at hc
 refine hc.mono ?_
 rintro e W' ⟨v,g',rfl,h1,_,_,_,_,hb⟩
 have hv := bool_inv h1
 subst hv
 obtain ⟨f1,f2,f3⟩ := hfn H ds hdl
 refine ⟨_,rfl,ds,[],p ++ [],[],p,[],hW',?_,?_,?_,?_,fun h => by cases h⟩
 ·rw [List.append_nil,f1,hrt]
  exact ⟨[],[],⟨1,by unfold DataW.trod; simp [hub,Value.cells]⟩,rfl,rfl⟩
 ·rw [List.append_nil,f2]
  refine trodAll_below hb _ tys _ _ _ hty hA _ fun x hx => ?_
  simpa using hW'.lt x (by simpa using hx)
 ·rw [List.append_nil,f3,hvars]
  rfl
 ·refine ⟨hb.os,hb.output,fun i hi => ?_⟩
  rw [hb.block i hi]
  cases W.heap[i]? with
  | none => rfl
  | some o => cases o <;> simp
theorem law_contract {G:Glob} {K n:Nat} {fn:Func} {sp:List D → Option D} {tys:List Ty} {s:ChangeSpec} (hC:Contract P G K sp) (hty:fn.params.toList.mapM (tyOf P n) = some tys) (hvars:s.vars = [])
  (hrt:∃ tb,fn.resultTypes = #[tb] ∧ P.underlying tb = some .bool)
  (hfn:∀ (H:Type) (ds:List (DataW H)),ds.length = fn.params.size → (s.fn H ds).results = [.lit (.bool true)] ∧ (s.fn H ds).args = ds ∧ (s.fn H ds).vars = [])
  (hsp:∀ xs,HasAll tys xs → sp xs = some (.bool true))
  {args:Array Value} {ds gs:List (DataW H)} {before:List MemPlace} (hG:GlobOK G W (ghost0 W))
  (hval:∀ (j:Nat) t v,fn.params[j]? = some t → args[j]? = some v → Value.okWide P W .any 0 t v)
  (hW:DataW.Whole enc P fn.params.toList s.vars false W args.toList ds gs before) :
  Calls P K args W fun e W' => ∃ v,e = .returned v ∧ s.post enc P fn false true false false W args v W' :=
 law_contractU (N := blks ds) hC hty hvars hrt hfn (fun xs h _ => hsp xs h) hG (Nat.le_refl _) hval hW
def tabG (g:Nat) (k:IntKind) (zs:List Int):Glob := fun n => if n = g then some (.agg (zs.map fun z => .int k z)) else none
theorem globTab {name:String} {k:IntKind} {zs:List Int} {g:Nat} (h:Lib.TabIs P W name k zs) (hg:P.globalNamed name = some g):GlobOK (tabG g k zs) W (ghost0 W) := by
 intro n d hd
 simp only [tabG,Option.ite_none_right_eq_some,Option.some.injEq] at hd
 obtain ⟨rfl,rfl⟩ := hd
 have hj:∀ (j:Nat) (d:D),(D.agg (zs.map fun z => D.int k z)).cells[j]? = some d → d = .int k (zs.getD j 0) ∧ W.cell? ⟨n,j,none⟩ = some (.int k (zs.getD j 0)) := by
  intro j d hd
  simp only [D.cells,List.getElem?_map,Option.map_eq_some_iff] at hd
  obtain ⟨z,hz,rfl⟩ := hd
  have hlt:j < zs.length := (List.getElem?_eq_some_iff.1 hz).1
  exact ⟨by simp [List.getD_eq_getElem?_getD,hz],h.cell hg j hlt⟩
 refine .eptr _ 0 n 0 (fun j => .int k (zs.getD j 0)) (fun j d hd => ?_) (fun j d hd => ?_) (fun j d hd => ?_)
 ·rw [(hj j d hd).1]; rfl
 ·have := (hj j d hd).2
  rw [Nat.zero_add]
  exact ⟨by show (W.cell? ⟨n,j,none⟩).isSome = true; rw [this]; rfl,this⟩
 ·rw [(hj j d hd).1]; exact .int _ _
end
end Go.Proofs.YtlleccmnjpcogaaDoor.PI
