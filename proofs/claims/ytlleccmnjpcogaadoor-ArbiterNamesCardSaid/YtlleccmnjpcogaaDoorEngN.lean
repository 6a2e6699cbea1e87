/-
  The translation of the model's operations into pure ones, and that it is sound.
  Conditions: none; these are definitions and lemmas.
-/
import Derived.DefersIn
import Derived.Test.YtlleccmnjpcogaaDoorEngM2
set_option linter.unusedVariables false
set_option linter.unusedSimpArgs false
namespace Go.Proofs.YtlleccmnjpcogaaDoor.PI
open Go Go.RowKit
def placeOf (P:Program) (t:TypeId):Option (Nat → Option (Nat × Nat)) :=
 match P.underlying t with
 | some (.array _ e) => match P.info? e with
  | some ie => some fun i => some (i * ie.size,ie.size)
  | none => none
 | some (.struct fields) => match fields.toList.mapM (fun f => (P.info? f.type).map fun i => (f.offset,i.size)) with
  | some places => some fun i => places.toArray[i]?
  | none => none
 | _ => none
def trParts (pl:Nat → Option (Nat × Nat)):List (Nat × Operand) → Option (List (Nat × Nat × PA))
 | [] => some []
 | (i,x) :: r => match pl i,trA x,trParts pl r with
  | some (off,size),some a,some l => some ((off,size,a) :: l)
  | _,_,_ => none
def trDense:Nat → List (Nat × Operand) → Option (List PA)
 | _,[] => some []
 | k,(i,x) :: r => match trA x,trDense (k + 1) r with
  | some a,some l => if i = k then some (a :: l) else none
  | _,_ => none
def trBin (P:Program) (op:BinOp) (t:TypeId) (a b:PA):Option POp :=
 match op with
 | .eql | .neq =>
  let neg := match op with | .neq => true | _ => false
  match P.underlying t with
  | some (.int _) | some .string => some (.bin op a b)
  | some .bool => some (.beq neg a b)
  | some (.struct _) | some (.array _ _) => match leafs P 100 t with
   | some ks => if P.eqGuardType P.depth t then none else some (.aeq ks neg a b)
   | none => none
  | _ => none
 | _ => some (.bin op a b)
def trConv (P:Program) (src dst:TypeId) (a:PA):Option POp :=
 match P.underlying src,P.underlying dst with
 | some _,some (.int k) => some (.conv (.int k) a)
 | some .string,some .string => some (.conv .same a)
 | some .string,some (.slice e) => match P.underlying e with
  | some (.int .u8) => some (.conv .bytes a)
  | _ => none
 | some (.slice e),some .string => match P.underlying e with
  | some (.int .u8) => some (.conv .str a)
  | _ => none
 | _,_ => none
def trSlice (P:Program) (t:TypeId) (a:PA) (lo hi mx:Option PA):Option POp :=
 match P.underlying t with
 | some .string => some (.slice 0 a lo hi mx)
 | some (.slice e) => match szOf P e with
  | some sz => if sz = 0 then none else some (.slice sz a lo hi mx)
  | none => none
 | some (.array n e) => match szOf P e,agOf P e,mx with
  | some sz,some ag,none => some (.sliceA n sz ag a lo hi)
  | _,_,_ => none
 | _ => none
def trBuiltin (P:Program) (b:Builtin) (args:List Operand) (ts:List TypeId):Option POp :=
 match b,args,ts with
 | .len,[x],[t] => match trA x,P.underlying t with
  | some a,some .string => some (.len true a)
  | some a,some (.slice _) => some (.len false a)
  | some _,some (.array n _) => some (.lenA n)
  | _,_ => none
 | .append,[s,x],[t,tx] => match trA s,trA x,P.underlying t,P.underlying tx with
  | some a,some b,some (.slice e),some (.slice _) | some a,some b,some (.slice e),some .string => match P.info? e with
   | some i => match i.zero with
    | some z => if z.cells.size = i.size then some (.app i.size i.bytes a b) else none
    | none => none
   | none => none
  | _,_,_,_ => none
 | .copy,[d,s],[t,_] => match trA d,trA s,P.underlying t with
  | some a,some b,some (.slice e) => match szOf P e with
   | some 1 => some (.cpy 1 a b)
   | _ => none
  | _,_,_ => none
 | .min,[x,y],_ => match trA x,trA y with
  | some a,some b => some (.mm false a b)
  | _,_ => none
 | .max,[x,y],_ => match trA x,trA y with
  | some a,some b => some (.mm true a b)
  | _,_ => none
 | .min,[x,y,z],_ => match trA x,trA y,trA z with
  | some a,some b,some c => some (.mm3 false a b c)
  | _,_,_ => none
 | .max,[x,y,z],_ => match trA x,trA y,trA z with
  | some a,some b,some c => some (.mm3 true a b c)
  | _,_,_ => none
 | _,_,_ => none
def trOp (P:Program) (il:List Nat):Op → Option POp
 | .move x | .assign x => (trA x).map .mov
 | .pick c a b => match trA c,trA a,trA b with
  | some c,some a,some b => some (.pick c a b)
  | _,_,_ => none
 | .alloc t => (zrOf P t).map fun d => .box (.c d)
 | .box _ x => (trA x).map .box
 | .build t parts => match zrOf P t,placeOf P t with
  | some (.agg zs),some pl => (trParts pl parts.toList).map (.bld zs)
  | _,_ => none
 | .buildSlice t len parts => match P.underlying t with
  | some (.slice e) => match P.info? e with
   | some i => match i.zero,trDense 0 parts.toList with
    | some _,some l => if l.length = len then some (.bslc i.size l) else none
    | _,_ => none
   | none => none
  | _ => none
 | .load t a => match trA a,szOf P t,agOf P t with
  | some a,some n,some ag => some (.load n ag a)
  | _,_,_ => none
 | .store t a x => match trA a,trA x,szOf P t with
  | some a,some x,some n => some (.stor n a x)
  | _,_,_ => none
 | .nilCheck x => (trA x).map .nilc
 | .binOp op t x y _ => match trA x,trA y with
  | some a,some b => trBin P op t a b
  | _,_ => none
 | .unOp op _ x => (trA x).map (.un op)
 | .convert src dst x => match trA x with
  | some a => trConv P src dst a
  | none => none
 | .makeSlice t l c => match trA l,trA c,P.underlying t with
  | some l,some c,some (.slice e) => match P.info? e with
   | some i => match i.zero with
    | some z => (constD z).map fun zd => .mkslc i.size i.bytes zd l c
    | none => none
   | none => none
  | _,_,_ => none
 | .slice t x lo hi mx => match trA x,trO lo,trO hi,trO mx with
  | some a,some lo,some hi,some mx => trSlice P t a lo hi mx
  | _,_,_,_ => none
 | .fieldAddr s x f => match trA x,P.underlying s with
  | some a,some (.struct fields) => match fields[f]? with
   | some fd => match szOf P fd.type with
    | some n => if n = 0 then none else some (.fld fd.offset a)
    | none => none
   | none => none
  | _,_ => none
 | .field s x f => match trA x,P.underlying s with
  | some a,some (.struct fields) => match fields[f]? with
   | some fd => match szOf P fd.type,agOf P fd.type with
    | some n,some ag => some (.fldv fd.offset n ag a)
    | _,_ => none
   | none => none
  | _,_ => none
 | .indexAddr t x i => match trA x,trA i,P.underlying t with
  | some a,some i,some (.array len e) => (szOf P e).map fun n => .idxA len n a i
  | some a,some i,some (.slice e) => (szOf P e).map fun n => .idxS n a i
  | _,_,_ => none
 | .index t x i => match trA x,trA i,P.underlying t with
  | some a,some i,some (.array len e) => match szOf P e,agOf P e with
   | some n,some ag => some (.idxV len n ag a i)
   | _,_ => none
  | some a,some i,some .string => some (.idx a i)
  | _,_,_ => none
 | .extract x i => (trA x).map fun a => .ext a i
 | .makeMap t none => match mapTy P t with
  | some (_,_,sz,_) => some (.mkmap sz)
  | none => none
 | .mapUpdate t m k v | .insert t m k v => match mapTy P t,trA m,trA k,trA v with
  | some (_,_,sz,ks),some m,some k,some v => some (.mapup sz ks m k v)
  | _,_,_,_ => none
 | .lookup t m k ok => match mapTy P t,trA m,trA k with
  | some (_,et,sz,ks),some m,some k => (zrOf P et).map fun zd => .mapget sz ks ok zd m k
  | _,_,_ => match gmapTy P t,trA m,trA k with
   | some zd,some m,some k => some (.mapget 0 [] ok zd m k)
   | _,_,_ => none
 | .call c => match c.callee with
  | .builtin b => trBuiltin P b c.args.toList c.argTypes.toList
  | .value (.func f) => match P.funcs[f]?,trAs c.args.toList with
   | some fn,some l => if fn.body.isSome && !(fn.name == "runtime.NumGoroutine") && decide (f < 50000000) then some (if il.contains (f + 1000000) then .mcall f l else if il.contains (f + 90000000) then .rcall f l else if il.contains f then .icall f l else .call f l) else if fn.body.isSome then none else some (.call (f + 50000000) l)
   | _,_ => none
  | .value x => match trA x,trAs c.args.toList with
   | some a,some l => some (.callv a l)
   | _,_ => none
  | _ => none
 | .makeFunc (.func f) first caps => if decide (f < 5000000) then (if first.isEmpty then (trAs caps.toList).map (.mkclo f) else if caps.isEmpty then (trAs first.toList).map (.mkclo (f + 5000000)) else none) else none
 | _ => none
def Contract (P:Program) (G:Glob) (f:Nat) (sp:List D → Option D):Prop :=
 ∀ (w:World) (g:Ghost) (ds:List D) (vs:List Value) (d:D),sp ds = some d → GlobOK G w g → (∀ b o,g.Im b o → (w.cell? ⟨b,o,none⟩).isSome = true) → ds.length = vs.length →
  (∀ (i:Nat) d v,ds[i]? = some d → vs[i]? = some v → RepV w g [] d v) → (∀ d ∈ ds,purA d = true) →
  Calls P f vs.toArray w fun e w' => ∃ v g',e = .returned v ∧ RepV w' g' [] d v ∧ purR d = true ∧ ImLe w g w' g' ∧ (∀ b o,g'.Im b o → g.Im b o ∨ w.heap.size ≤ b) ∧
   (∀ b o,g'.Im b o → (w'.cell? ⟨b,o,none⟩).isSome = true) ∧ Below w.heap.size w w'
def IContract (P:Program) (G:Glob) (f:Nat) (sp:List D → St → Option (D × St)):Prop :=
 (∃ fn,P.funcs[f]? = some fn ∧ fn.body.isSome = true ∧ (fn.name == "runtime.NumGoroutine") = false) ∧
 ∀ (base:Nat) (w:World) (g:Ghost) (st st':St) (ds:List D) (vs:List Value) (d:D),sp ds st = some (d,st') → SR base w g st → GlobOK G w g → ds.length = vs.length →
  (∀ (i:Nat) d v,ds[i]? = some d → vs[i]? = some v → RepV w g st d v) →
  Calls P f vs.toArray w fun e w' => ∃ v g',e = .returned v ∧ Go1 base w g st w' g' st' ∧ RepV w' g' st' d v
def YieldRuns (P:Program) (base:Nat) (w:World) (g:Ghost) (st st':St) (l:Nat) (vs:List Value) (d:D):Prop :=
 ∃ f tmps assign body,(Instr.yield l vs.toArray).run P w = .ok (.round l f tmps assign body) w ∧
  RoundIn Fence.wide 0 P l f tmps assign body w fun e w' => ∃ v g',e = .returned v ∧ Go1 base w g st w' g' st' ∧ RepV w' g' st' d v
def YOK (P:Program) (G:Glob) (y:Nat → List D → St → Option (D × St)) (base:Nat) (w0:World) (g0:Ghost) (st0:St):Prop :=
 ∀ (l:Nat) (w:World) (g:Ghost) (st st':St) (ds:List D) (vs:List Value) (d:D),Go1 base w0 g0 st0 w g st → GlobOK G w g → y l ds st = some (d,st') → ds.length = vs.length →
  (∀ (i:Nat) d v,ds[i]? = some d → vs[i]? = some v → RepV w g st d v) → YieldRuns P base w g st st' l vs d
def YIContract (P:Program) (G:Glob) (f:Nat) (sp:(List D → St → Option (D × St)) → List D → St → Option (D × St)):Prop :=
 (∃ fn,P.funcs[f]? = some fn ∧ fn.body.isSome = true ∧ (fn.name == "runtime.NumGoroutine") = false) ∧
 ∀ (base:Nat) (w:World) (g:Ghost) (st st':St) (ds:List D) (vs:List Value) (d:D) (l:Nat) (y:List D → St → Option (D × St)),YOK P G (fun l' ds st => if l' = l then y ds st else none) base w g st →
  sp y ds st = some (d,st') → SR base w g st → GlobOK G w g → ds.length = vs.length → (∀ (i:Nat) d v,ds[i]? = some d → vs[i]? = some v → RepV w g st d v) →
  Calls P f (Value.func (.yield l) #[] #[] :: vs).toArray w fun e w' => ∃ v g',e = .returned v ∧ Go1 base w g st w' g' st' ∧ RepV w' g' st' d v
def ExtOK (P:Program) (f:Nat) (sp:List D → Option D):Prop :=
 ∀ (ys:List D) (r:D),sp ys = some r → ∀ (w:World) (g:Ghost) (st:St) (vs:List Value),ys.length = vs.length → (∀ (i:Nat) y v,ys[i]? = some y → vs[i]? = some v → RepV w g st y v) →
  ∃ v,(callFunc f vs.toArray).run P w = .ok (.value v) w ∧ ∀ (g:Ghost) (st:St),RepV w g st r v
def valI:D → Value
 | .int k n => .int k n
 | _ => undef
def valOf:D → Value
 | .agg l => .agg (l.map valI).toArray
 | d => valI d
def chainOf (t:Nat) (d:D):List PanicEntry := [{ v := .iface t (valOf d),recovered := false }]
theorem valI_rep {w:World} {g:Ghost} {st:St} {d:D} {v:Value} (h:RepV w g st d v) (hi:isI d = true):v = valI d := by
 cases h <;> first | rfl | (simp [isI] at hi; done)
theorem valOf_rep {w:World} {g:Ghost} {st:St} {d:D} {v:Value} (h:RepV w g st d v) (hi:intsD d = true):v = valOf d := by
 cases h with
 | int k n => rfl
 | agg ds vs hl hv =>
  have:vs = ds.map valI := by
   apply List.ext_getElem (by simp [hl])
   intro i h1 h2
   have h3:i < ds.length := by omega
   have hd:ds[i]? = some ds[i] := List.getElem?_eq_getElem h3
   have := valI_rep (hv i ds[i] vs[i] hd (List.getElem?_eq_getElem h1)) (List.all_eq_true.1 hi _ (List.getElem_mem h3))
   rw [this]; simp
  rw [this]; rfl
 | _ => simp [intsD,isI] at hi
def XIContract (P:Program) (G:Glob) (f:Nat) (sp:List D → St → Option (Nat × D × St)):Prop :=
 (∃ fn,P.funcs[f]? = some fn ∧ fn.body.isSome = true ∧ (fn.name == "runtime.NumGoroutine") = false) ∧
 ∀ (base:Nat) (w:World) (g:Ghost) (st st':St) (ds:List D) (vs:List Value) (t:Nat) (d:D),sp ds st = some (t,d,st') → SR base w g st → GlobOK G w g → ds.length = vs.length →
  (∀ (i:Nat) d v,ds[i]? = some d → vs[i]? = some v → RepV w g st d v) →
  Calls P f vs.toArray w fun e w' => ∃ g',e = .panicked (chainOf t d) ∧ Go1 base w g st w' g' st'
structure TblOK (P:Program) (G:Glob) (T:Tbl):Prop where
 p:∀ f sp,T.p f = some sp → (f < 50000000 ∧ Contract P G f sp) ∨ ∃ f',f = f' + 50000000 ∧ ExtOK P f' sp
 i:∀ f sp,T.i f = some sp → IContract P G f sp
 m:∀ f sp,T.m f = some sp → IContract P G f (fun ds st => (sp ds).map fun r => (r.1 st.length,st ++ r.2 st.length))
 r:∀ f sp,T.r f = some sp → YIContract P G f sp
 x:∀ f sp,T.x f = some sp → XIContract P G f sp
 q:∀ f sp,T.q f = some sp → IContract P G f (fun ds st => (reads1 sp ds st).map (·,st))
section
variable {P:Program} {base:Nat} {w:World} {g:Ghost} {st:St}
theorem modify_get (st:St) (k:Nat) (key:Nat):(st.modify k fun o => { o with lent := true })[key]? = (st[key]?).map fun o => if k = key then { o with lent := true } else o := by
 rw [List.getElem?_modify]
 cases st[key]? with
 | none => rfl
 | some o => by_cases e:k = key <;> simp [e]
theorem rowEls_lend1 (st:St) (k key tot off len:Nat):rowEls (st.modify k fun o => { o with lent := true }) key tot off len = rowEls st key tot off len := by
 unfold rowEls
 rw [modify_get]
 cases st[key]? with
 | none => rfl
 | some o => by_cases e:k = key <;> simp [e]
theorem bslI_lend1 (st:St) (k key off n sz:Nat) (ag:Bool):bslI (st.modify k fun o => { o with lent := true }) key off n sz ag = bslI st key off n sz ag := by
 unfold bslI bslEls
 rw [modify_get]
 cases st[key]? with
 | none => rfl
 | some o => by_cases e:k = key <;> simp [e]
theorem imm1_lend1 (st:St) (k:Nat) (d:D):imm1 (st.modify k fun o => { o with lent := true }) d = imm1 st d := by
 cases d <;> simp only [imm1,rowEls_lend1,bslI_lend1]
theorem immL_lend1 (st:St) (k:Nat):∀ (l:List D),immL (st.modify k fun o => { o with lent := true }) l = immL st l
 | [] => rfl
 | d :: l => by simp only [immL,imm1_lend1,immL_lend1 st k l]
theorem imm_lend1 (st:St) (k:Nat) (d:D):imm (st.modify k fun o => { o with lent := true }) d = imm st d := by
 cases d <;> simp only [imm,imm1_lend1,immL_lend1]
theorem imms_lend1 (st:St) (k:Nat):∀ (l:List D),imms (st.modify k fun o => { o with lent := true }) l = imms st l
 | [] => rfl
 | d :: l => by simp only [imms,imm_lend1,imms_lend1 st k l]
theorem imms_lend (l:List D):∀ (ks:List Nat) (st:St),imms (lend ks st) l = imms st l
 | [],_ => rfl
 | k :: r,st => by rw [lend,imms_lend l r,imms_lend1]
theorem lent_lend (ks:List Nat) {g g':Ghost} {st st':St} (hs:∀ (k:Nat) o',st'[k]? = some o' → ∃ o,st[k]? = some o ∧ o'.els = o.els ∧ o'.sz = o.sz ∧ o'.row = o.row) (hb:g'.β = g.β)
  (h:∀ k ∈ ks,∀ o,st[k]? = some o → o.isMap = false → ∀ x,x < o.els.length * o.sz → g'.Im (g.β k) x):Lent g' st' ks := by
 intro k hk o' ho' hm x hx
 obtain ⟨o,ho,e1,e2,e3⟩ := hs k o' ho'
 rw [e1,e2] at hx
 rw [hb]
 exact h k hk o ho ((isMap_eq e3 e2).symm.trans hm) x hx
theorem lend_get:∀ (ks:List Nat) (st:St) (k:Nat) (o':Obj),(lend ks st)[k]? = some o' → ∃ o,st[k]? = some o ∧ o'.els = o.els ∧ o'.sz = o.sz ∧ o'.row = o.row
 | [],_,_,o',h => ⟨o',h,rfl,rfl,rfl⟩
 | q :: r,st,k,o',h => by
  obtain ⟨o1,h1,e1,e2,e3⟩ := lend_get r _ k o' h
  rw [modify_get] at h1
  cases h0:st[k]? with
  | none => simp [h0] at h1
  | some o =>
   simp only [h0,Option.map_some,Option.some.injEq] at h1
   refine ⟨o,rfl,?_,?_,?_⟩
   ·rw [e1,← h1]; split <;> rfl
   ·rw [e2,← h1]; split <;> rfl
   ·rw [e3,← h1]; split <;> rfl
theorem lend_args (hS:SR base w g st) {ds ys:List D} (h:imms st ds = some ys):∃ g',Go1 base w g st w g' (lend (ds.flatMap keys) st) ∧ g'.β = g.β ∧ ys.length = ds.length ∧ (∀ y ∈ ys,purA y = true) ∧
  ∀ (i:Nat) y v,ys[i]? = some y → (∀ d,ds[i]? = some d → RepV w g st d v) → RepV w g' (lend (ds.flatMap keys) st) y v := by
 obtain ⟨g',hgo,hb,_,hl⟩ := hS.lend (ds.flatMap keys)
 have hL := lent_lend (ds.flatMap keys) (lend_get (ds.flatMap keys) st) hb hl
 obtain ⟨h1,h2,h3⟩ := imms_rep hgo.sr ((imms_lend ds _ st).trans h) hL
 exact ⟨g',hgo,hb,h1,h3,fun i y v hy hv => h2 i y v hy fun d hd => hgo.rep (hv d hd)⟩
theorem noRef1_rep {w':World} {g':Ghost} {st':St} {d:D} {v:Value} (h:RepV w g st d v) (hn:d.noRef1 = true):RepV w' g' st' d v := by
 cases h <;> first | exact .int _ _ | exact .bool _ | exact .str _ | (simp [D.noRef1] at hn; done)
theorem noRef_rep {w':World} {g':Ghost} {st':St} {d:D} {v:Value} (h:RepV w g st d v) (hn:d.noRef = true):RepV w' g' st' d v := by
 cases d with
 | agg l =>
  cases h with
  | agg _ vs h1 h2 =>
   simp only [D.noRef,List.all_eq_true] at hn
   exact .agg l vs h1 fun i d v hd hv => noRef1_rep (h2 i d v hd hv) (hn d (List.mem_of_getElem? hd))
 | tup l =>
  cases h with
  | tup _ vs h1 h2 =>
   simp only [D.noRef,List.all_eq_true] at hn
   refine .tup l vs h1 fun i d v hd hv => ?_
   have h3 := hn d (List.mem_of_getElem? hd)
   have h4 := h2 i d v hd hv
   cases d with
   | agg l' =>
    cases h4 with
    | agg _ vs' h5 h6 =>
     simp only [List.all_eq_true] at h3
     exact .agg l' vs' h5 fun i d v hd hv => noRef1_rep (h6 i d v hd hv) (h3 d (List.mem_of_getElem? hd))
   | _ => exact noRef1_rep h4 h3
 | _ => exact noRef1_rep h hn
end
end Go.Proofs.YtlleccmnjpcogaaDoor.PI
