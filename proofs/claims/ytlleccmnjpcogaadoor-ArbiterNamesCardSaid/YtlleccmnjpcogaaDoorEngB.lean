/-
  What it means that a pure value stands for a machine value in a world; it is kept by steps that keep immutable cells.
  Conditions: none; these are definitions and lemmas on them.
-/
import Derived.Test.YtlleccmnjpcogaaDoorEngA
import Derived.WalkKit
import Derived.Deep.LoopGhost
import Derived.Orders
set_option linter.unusedVariables false
set_option linter.unusedSimpArgs false
namespace Go.Proofs.YtlleccmnjpcogaaDoor.PI
open Go Go.RowKit
structure Ghost where
 β:Nat → Nat
 γ:Nat → Nat
 Im:Nat → Nat → Prop
def cellAt (els:List D) (i j:Nat):Option D := match els[i]? with
 | some e => e.cells[j]?
 | none => none
def fnOf (f:Nat):Fn := if f < 5000000 then .func f else if f < 10000000 then .func (f - 5000000) else .yield (f - 10000000)
def firstOf (f:Nat) (vs:List Value):Array Value := if 5000000 ≤ f ∧ f < 10000000 then vs.toArray else #[]
def capsOf (f:Nat) (vs:List Value):Array Value := if 5000000 ≤ f ∧ f < 10000000 then #[] else vs.toArray
theorem fnOf_lt {f:Nat} (h:f < 5000000):fnOf f = .func f := if_pos h
theorem firstOf_lt {f:Nat} (h:f < 5000000) (vs:List Value):firstOf f vs = #[] := if_neg (by omega)
theorem capsOf_lt {f:Nat} (h:f < 5000000) (vs:List Value):capsOf f vs = vs.toArray := if_neg (by omega)
theorem firstOf_nil (f:Nat):firstOf f [] = #[] := by unfold firstOf; split <;> rfl
theorem capsOf_nil (f:Nat):capsOf f [] = #[] := by unfold capsOf; split <;> rfl
theorem fnOf_yield (l:Nat):fnOf (10000000 + l) = .yield l := by
 unfold fnOf; rw [if_neg (by omega),if_neg (by omega),Nat.add_sub_cancel_left]
theorem fnOf_bnd {f:Nat} (h:f < 5000000):fnOf (f + 5000000) = .func f := by
 unfold fnOf; rw [if_neg (by omega),if_pos (by omega),Nat.add_sub_cancel]
theorem firstOf_bnd {f:Nat} (h:f < 5000000) (vs:List Value):firstOf (f + 5000000) vs = vs.toArray := if_pos ⟨by omega,by omega⟩
theorem capsOf_bnd {f:Nat} (h:f < 5000000) (vs:List Value):capsOf (f + 5000000) vs = #[] := if_pos ⟨by omega,by omega⟩
theorem isMap_row {o:Obj} (h:o.isMap = true):o.row = false := by
 unfold Obj.isMap at h
 cases hr:o.row with
 | false => rfl
 | true => rw [hr] at h; cases h
theorem isMap_sz {o:Obj} (h:o.isMap = true):1 < o.sz := by
 unfold Obj.isMap at h
 rw [Bool.and_eq_true] at h
 exact of_decide_eq_true h.2
theorem isMap_eq {o o':Obj} (h1:o'.row = o.row) (h2:o'.sz = o.sz):o'.isMap = o.isMap := by unfold Obj.isMap; rw [h1,h2]
theorem isMap_no_row {o:Obj} (h:o.row = true):o.isMap = false := by unfold Obj.isMap; rw [h]; rfl
theorem isMap_no_one {o:Obj} (h:o.sz = 1):o.isMap = false := by unfold Obj.isMap; rw [h]; simp
def aggV:Value → Bool
 | .agg _ => true
 | _ => false
def spM:Go.Obj → Bool
 | .map es _ => match es[0]? with
  | some e => aggV e.val
  | none => false
 | _ => false
theorem spM_map (es:Array MapEntry) (c:Nat):spM (.map es c) = (match es[0]? with | some e => aggV e.val | none => false) := (rfl)
def MapFits (ents:Array MapEntry) (es:List (Int × Nat)):Prop :=
 (∀ e ∈ ents.toList,∃ n f,e.key = .int .i64 n ∧ e.val = .agg #[.func (.func f) #[] #[]] ∧ f < 5000000 ∧ gfind n es = some f) ∧ ∀ n f,gfind n es = some f → ∃ e ∈ ents.toList,e.key = .int .i64 n
inductive RepV (w:World) (g:Ghost) (st:St):D → Value → Prop
 | int (k:IntKind) (n:Int):RepV w g st (.int k n) (.int k n)
 | bool (b:Bool):RepV w g st (.bool b) (.bool b)
 | str (s:List UInt8):RepV w g st (.str s) (.string ⟨s.toArray⟩)
 | nilp:RepV w g st .nilp (.pointer none)
 | nilm:RepV w g st .nilm (.map none)
 | gmap (es:List (Int × Nat)) (b:Nat) (ents:Array MapEntry) (clock:Nat):w.heap[b]? = some (.map ents clock) → spM (.map ents clock) = true → MapFits ents es → RepV w g st (.gmap es) (.map (some b))
 | slcE (sz:Nat) (t:Bool) (a:Option Addr) (cap:Nat):(t = true → cap = 0) → RepV w g st (.slc sz [] t) (.slice a 0 cap)
 | slc (els:List D) (t:Bool) (b off cap sz:Nat) (val:Nat → Nat → Value):els ≠ [] → 0 < sz → (∀ e ∈ els,e.cells.length = sz) → (∀ i j d,cellAt els i j = some d → d.pure1 = true) → els.length ≤ cap → (t = true → cap = els.length) →
   (∀ i j d,cellAt els i j = some d → g.Im b (off + i * sz + j) ∧ w.cell? ⟨b,off + i * sz + j,none⟩ = some (val i j)) →
   (∀ i j d,cellAt els i j = some d → RepV w g st d (val i j)) → RepV w g st (.slc sz els t) (.slice (some ⟨b,off,none⟩) els.length cap)
 | row (key tot off len:Nat) (o:Obj) (v:Value):v.oneCell' = true → st[key]? = some o → o.row = true → tot ≤ o.els.length →
   (tot = o.els.length → v = .slice (some ⟨g.β key,off * o.sz,none⟩) len (g.γ key - off) ∧ off + len ≤ tot) → RepV w g st (.row key tot off len) v
 | bsl (key off n sz:Nat) (ag:Bool) (o:Obj) (cap:Nat):st[key]? = some o → o.row = false → o.sz = 1 → n ≤ cap → RepV w g st (.bsl key off n sz ag) (.slice (some ⟨g.β key,off,none⟩) n cap)
 | mapv (key:Nat) (o:Obj):st[key]? = some o → o.isMap = true → RepV w g st (.mapv key) (.map (some (g.β key)))
 | ptr (key off:Nat) (o:Obj):st[key]? = some o → o.row = false → o.sz = 1 → RepV w g st (.ptr key off) (.pointer (some ⟨g.β key,off,none⟩))
 | rptr (key tot i off:Nat) (o:Obj) (v:Value):v.oneCell' = true → st[key]? = some o → o.row = true → tot ≤ o.els.length →
   (tot = o.els.length → v = .pointer (some ⟨g.β key,i * o.sz + off,none⟩)) → RepV w g st (.rptr key tot i off) v
 | eptr (el:D) (off b o:Nat) (val:Nat → Value):(∀ (j:Nat) (d:D),el.cells[j]? = some d → d.pure1 = true) →
   (∀ (j:Nat) (d:D),el.cells[j]? = some d → g.Im b (o + j) ∧ w.cell? ⟨b,o + j,none⟩ = some (val j)) →
   (∀ (j:Nat) (d:D),el.cells[j]? = some d → RepV w g st d (val j)) → RepV w g st (.eptr el off) (.pointer (some ⟨b,o + off,none⟩))
 | agg (ds:List D) (vs:List Value):ds.length = vs.length → (∀ (i:Nat) (d:D) (v:Value),ds[i]? = some d → vs[i]? = some v → RepV w g st d v) → RepV w g st (.agg ds) (.agg vs.toArray)
 | tup (ds:List D) (vs:List Value):ds.length = vs.length → (∀ (i:Nat) (d:D) (v:Value),ds[i]? = some d → vs[i]? = some v → RepV w g st d v) → RepV w g st (.tup ds) (.tuple vs.toArray)
 | clo (f:Nat) (ds:List D) (vs:List Value):ds.length = vs.length → (∀ (i:Nat) (d:D) (v:Value),ds[i]? = some d → vs[i]? = some v → RepV w g st d v) → RepV w g st (.clo f ds) (.func (fnOf f) (firstOf f vs) (capsOf f vs))
 | nilf:RepV w g st .nilf .nilFunc
 | junk (v:Value):RepV w g st .junk v
def Evo (g:Ghost) (st:St) (g':Ghost) (st':St):Prop :=
 ∀ (k:Nat) (o:Obj),st[k]? = some o → ∃ o',st'[k]? = some o' ∧ o'.row = o.row ∧ o'.sz = o.sz ∧ o.els.length ≤ o'.els.length ∧
  (o'.els.length = o.els.length → g'.β k = g.β k ∧ g'.γ k = g.γ k) ∧ (o.row = false → g'.β k = g.β k)
theorem Evo.refl (g:Ghost) (st:St):Evo g st g st := fun _ o h => ⟨o,h,rfl,rfl,Nat.le_refl _,fun _ => ⟨rfl,rfl⟩,fun _ => rfl⟩
theorem Evo.trans {g g1 g2:Ghost} {st st1 st2:St} (h:Evo g st g1 st1) (h':Evo g1 st1 g2 st2):Evo g st g2 st2 := by
 intro k o ho
 obtain ⟨o1,h1,r1,s1,l1,b1,c1⟩ := h k o ho
 obtain ⟨o2,h2,r2,s2,l2,b2,c2⟩ := h' k o1 h1
 refine ⟨o2,h2,r2.trans r1,s2.trans s1,Nat.le_trans l1 l2,fun e => ?_,fun e => ?_⟩
 ·have e1:o1.els.length = o.els.length := by omega
  have e2:o2.els.length = o1.els.length := by omega
  exact ⟨(b2 e2).1.trans (b1 e1).1,(b2 e2).2.trans (b1 e1).2⟩
 ·exact (c2 (r1.trans e)).trans (c1 e)
structure ImLe (w:World) (g:Ghost) (w':World) (g':Ghost):Prop where
 im:∀ b o,g.Im b o → g'.Im b o ∧ w'.cell? ⟨b,o,none⟩ = w.cell? ⟨b,o,none⟩
 kp:∀ (b:Nat) (o:Go.Obj),w.heap[b]? = some o → spM o = true → w'.heap[b]? = some o
theorem ImLe.refl (w:World) (g:Ghost):ImLe w g w g := ⟨fun _ _ h => ⟨h,rfl⟩,fun _ _ h _ => h⟩
theorem ImLe.trans {w w1 w2:World} {g g1 g2:Ghost} (h:ImLe w g w1 g1) (h':ImLe w1 g1 w2 g2):ImLe w g w2 g2 :=
 ⟨fun b o hb => ⟨(h'.im b o (h.im b o hb).1).1,(h'.im b o (h.im b o hb).1).2.trans (h.im b o hb).2⟩,fun b o hb hs => h'.kp b o (h.kp b o hb hs) hs⟩
theorem RepV.mono {w w':World} {g g':Ghost} {st st':St} {d:D} {v:Value} (hI:ImLe w g w' g') (hE:Evo g st g' st') (h:RepV w g st d v):RepV w' g' st' d v := by
 induction h with
 | int k n => exact .int k n
 | bool b => exact .bool b
 | str s => exact .str s
 | nilp => exact .nilp
 | nilm => exact .nilm
 | gmap es b ents clock h1 h2 h3 => exact .gmap es b ents clock (hI.kp _ _ h1 h2) h2 h3
 | slcE sz t a cap h => exact .slcE sz t a cap h
 | slc els t b off cap sz val h1 h2 h3 h3' h4 h5 h6 _ ih =>
  exact .slc els t b off cap sz val h1 h2 h3 h3' h4 h5 (fun i j d hd => ⟨(hI.im _ _ (h6 i j d hd).1).1,(hI.im _ _ (h6 i j d hd).1).2.trans (h6 i j d hd).2⟩) ih
 | row key tot off len o v h0 h1 h2 h3 h4 =>
  obtain ⟨o',e1,e2,e3,e4,e5,_⟩ := hE key o h1
  refine .row key tot off len o' v h0 e1 (e2.trans h2) (Nat.le_trans h3 e4) fun e => ?_
  have e6:tot = o.els.length := by omega
  have e7 := e5 (by omega)
  rw [e3,e7.1,e7.2]
  exact h4 e6
 | bsl key off n sz ag o cap h1 h2 h3 h4 =>
  obtain ⟨o',e1,e2,e3,_,_,e6⟩ := hE key o h1
  rw [← e6 h2]
  exact .bsl key off n sz ag o' cap e1 (e2.trans h2) (e3.trans h3) h4
 | mapv key o h1 h2 =>
  obtain ⟨o',e1,e2,e3,_,_,e6⟩ := hE key o h1
  rw [← e6 (isMap_row h2)]
  exact .mapv key o' e1 (by rw [isMap_eq e2 e3]; exact h2)
 | ptr key off o h1 h2 h3 =>
  obtain ⟨o',e1,e2,e3,_,_,e6⟩ := hE key o h1
  rw [← e6 h2]
  exact .ptr key off o' e1 (e2.trans h2) (e3.trans h3)
 | rptr key tot i off o v h0 h1 h2 h3 h4 =>
  obtain ⟨o',e1,e2,e3,e4,e5,_⟩ := hE key o h1
  refine .rptr key tot i off o' v h0 e1 (e2.trans h2) (Nat.le_trans h3 e4) fun e => ?_
  have e6:tot = o.els.length := by omega
  have e7 := e5 (by omega)
  rw [e3,e7.1]
  exact h4 e6
 | eptr el off b o val h0 h1 _ ih => exact .eptr el off b o val h0 (fun j d hd => ⟨(hI.im _ _ (h1 j d hd).1).1,(hI.im _ _ (h1 j d hd).1).2.trans (h1 j d hd).2⟩) ih
 | agg ds vs h _ ih => exact .agg ds vs h ih
 | tup ds vs h _ ih => exact .tup ds vs h ih
 | clo f ds vs h _ ih => exact .clo f ds vs h ih
 | nilf => exact .nilf
 | junk v => exact .junk v
def RecAt (base:Nat) (w:World) (b:Nat) (o:Obj):Prop :=
 ∃ (r:Loop) (n:Int),w.heap[b]? = some (.loop r) ∧ base ≤ b ∧ o.els = [.int .i64 n] ∧ (n = 0 → r.state = .ready ∧ r.pending = none) ∧ (n = 1 → r.state = .done ∧ r.pending = some .ret)
def MapAt0 (base:Nat) (w:World) (g:Ghost) (st:St) (b:Nat) (o:Obj):Prop :=
 ∃ es clock,w.heap[b]? = some (.map es clock) ∧ base ≤ b ∧ es.size = o.els.length ∧ (∀ x ∈ o.els,∃ l,x = .agg l ∧ l.length = o.sz) ∧
  (∀ (i:Nat) (e:MapEntry) (el:D),es[i]? = some e → o.els[i]? = some el → RepV w g st (entK o.sz el) e.key ∧ RepV w g st (entV o.sz el) e.val) ∧ spM (.map es clock) = false
theorem MapAt0.mono {base:Nat} {w w':World} {g g':Ghost} {st st':St} {b b':Nat} {o:Obj} (h:MapAt0 base w g st b o) (hI:ImLe w g w' g') (hE:Evo g st g' st') (hb:b' = b) (hw:w'.heap[b]? = w.heap[b]?):MapAt0 base w' g' st' b' o := by
 obtain ⟨es,clock,h1,h2,h3,h4,h5,h6⟩ := h
 subst hb
 exact ⟨es,clock,hw.trans h1,h2,h3,h4,fun i e el he hel => ⟨(h5 i e el he hel).1.mono hI hE,(h5 i e el he hel).2.mono hI hE⟩,h6⟩
def MapAt (base:Nat) (w:World) (g:Ghost) (st:St) (b:Nat) (o:Obj):Prop := if o.sz = 1000003 then RecAt base w b o else MapAt0 base w g st b o
theorem MapAt.mono {base:Nat} {w w':World} {g g':Ghost} {st st':St} {b b':Nat} {o:Obj} (h:MapAt base w g st b o) (hI:ImLe w g w' g') (hE:Evo g st g' st') (hb:b' = b) (hw:w'.heap[b]? = w.heap[b]?):MapAt base w' g' st' b' o := by
 unfold MapAt at h ⊢
 split at h
 ·rename_i hs
  rw [if_pos hs]
  obtain ⟨r,n,h1,h2⟩ := h
  subst hb
  exact ⟨r,n,hw.trans h1,h2⟩
 ·rename_i hs
  rw [if_neg hs]
  exact MapAt0.mono h hI hE hb hw
theorem MapAt.old {base:Nat} {w:World} {g:Ghost} {st:St} {b:Nat} {o:Obj} (h:MapAt base w g st b o) (hs:o.sz ≠ 1000003):MapAt0 base w g st b o := by
 unfold MapAt at h; rwa [if_neg hs] at h
theorem MapAt.rec' {base:Nat} {w:World} {g:Ghost} {st:St} {b:Nat} {o:Obj} (h:MapAt base w g st b o) (hs:o.sz = 1000003):RecAt base w b o := by
 unfold MapAt at h; rwa [if_pos hs] at h
theorem MapAt.at {base:Nat} {w:World} {g:Ghost} {st:St} {b:Nat} {o:Obj} (h:MapAt base w g st b o):∃ x,w.heap[b]? = some x ∧ base ≤ b ∧ spM x = false ∧ (∀ C e z,x ≠ .cells C e z) ∧ (∀ ds,x ≠ .deferred ds) ∧ ∀ i,w.cell? ⟨b,i,none⟩ = none := by
 by_cases hs:o.sz = 1000003
 ·obtain ⟨r,n,h1,h2,_⟩ := h.rec' hs
  exact ⟨_,h1,h2,rfl,fun _ _ _ h => (by cases h),fun _ h => (by cases h),fun i => by simp only [World.cell?,h1]⟩
 ·obtain ⟨es,c,h1,h2,_,_,_,h6⟩ := h.old hs
  exact ⟨_,h1,h2,h6,fun _ _ _ h => (by cases h),fun _ h => (by cases h),fun i => by simp only [World.cell?,h1]⟩
structure SR (base:Nat) (w:World) (g:Ghost) (st:St):Prop where
 mp:∀ (k:Nat) (o:Obj),st[k]? = some o → o.isMap = true → MapAt base w g st (g.β k) o
 blk:∀ (k:Nat) (o:Obj),st[k]? = some o → o.isMap = false → ∃ C e,w.heap[g.β k]? = some (.cells C e (0,0)) ∧ base ≤ g.β k ∧ 0 < o.sz ∧ (∀ x ∈ o.els,x.cells.length = o.sz) ∧
  (if o.row then C.size = g.γ k * o.sz ∧ o.els.length ≤ g.γ k ∧ g.γ k ≤ maxLen else C.size = o.els.length ∧ o.sz = 1 ∧ ∀ x ∈ o.els,x.cells = [x]) ∧
  (∀ i j d,cellAt o.els i j = some d → (o.row = true → d.pure1 = true) ∧ ∃ v,C[i * o.sz + j]? = some v ∧ RepV w g st d v)
 inj:∀ (k k':Nat) (o o':Obj),st[k]? = some o → st[k']? = some o' → g.β k = g.β k' → k = k'
 im:∀ b o,g.Im b o → (w.cell? ⟨b,o,none⟩).isSome = true
 dis:∀ (k:Nat) (o:Obj) (x:Nat),st[k]? = some o → g.Im (g.β k) x → o.lent = true ∧ x < o.els.length * o.sz
 size:base ≤ w.heap.size
def special:Go.Obj → Bool
 | .loop _ | .deferred _ => true
 | _ => false
def sameSp:Go.Obj → Go.Obj → Prop
 | .loop r,x => ∃ s p,x = .loop { r with state := s,pending := p }
 | y,x => x = y
theorem sameSp.refl (o:Go.Obj):sameSp o o := by
 cases o <;> first | rfl | exact ⟨_,_,rfl⟩
theorem sameSp.trans {a b c:Go.Obj} (h:sameSp a b) (h':sameSp b c):sameSp a c := by
 cases a with
 | loop r =>
  obtain ⟨s,p,rfl⟩ := h
  obtain ⟨s',p',rfl⟩ := h'
  exact ⟨s',p',rfl⟩
 | _ => cases h; exact h'
theorem sameSp.special {a b:Go.Obj} (h:sameSp a b) (hs:special a = true):special b = true := by
 cases a with
 | loop r => obtain ⟨s,p,rfl⟩ := h; rfl
 | _ => cases h; exact hs
def Kept (w':World) (b:Nat) (o:Go.Obj):Prop := ∃ o',w'.heap[b]? = some o' ∧ sameSp o o'
theorem Kept.same {w':World} {b:Nat} {o:Go.Obj} (h:w'.heap[b]? = some o):Kept w' b o := ⟨o,h,sameSp.refl o⟩
theorem Kept.def' {w':World} {b:Nat} {ds:Option (List Deferred)} (h:Kept w' b (.deferred ds)):w'.heap[b]? = some (.deferred ds) := by
 obtain ⟨o',h1,h2⟩ := h
 cases h2; exact h1
theorem Kept.loop {w':World} {b:Nat} {r:Loop} (h:Kept w' b (.loop r)):∃ s p,w'.heap[b]? = some (.loop { r with state := s,pending := p }) := by
 obtain ⟨o',h1,s,p,rfl⟩ := h
 exact ⟨s,p,h1⟩
structure Go1 (base:Nat) (w:World) (g:Ghost) (st:St) (w':World) (g':Ghost) (st':St):Prop where
 sr:SR base w' g' st'
 evo:Evo g st g' st'
 im:ImLe w g w' g'
 new:∀ b o,g'.Im b o → g.Im b o ∨ base ≤ b
 below:Below base w w'
 kp:∀ (b:Nat) (o:Go.Obj),w.heap[b]? = some o → special o = true → Kept w' b o
theorem Go1.refl {base:Nat} {w:World} {g:Ghost} {st:St} (h:SR base w g st):Go1 base w g st w g st :=
 ⟨h,Evo.refl _ _,ImLe.refl _ _,fun _ _ h => .inl h,Below.refl _ _,fun _ _ h _ => .same h⟩
theorem Go1.trans {base:Nat} {w w1 w2:World} {g g1 g2:Ghost} {st st1 st2:St} (h:Go1 base w g st w1 g1 st1) (h':Go1 base w1 g1 st1 w2 g2 st2):Go1 base w g st w2 g2 st2 :=
 ⟨h'.sr,h.evo.trans h'.evo,h.im.trans h'.im,fun b o hb => by
  rcases h'.new b o hb with x | x
  ·exact h.new b o x
  ·exact .inr x,h.below.trans h'.below,fun b o hb hs => (let ⟨_,h1,h2⟩ := h.kp b o hb hs; let ⟨o2,h3,h4⟩ := h'.kp b _ h1 (h2.special hs); ⟨o2,h3,h2.trans h4⟩)⟩
theorem Go1.rep {base:Nat} {w w':World} {g g':Ghost} {st st':St} (h:Go1 base w g st w' g' st') {d:D} {v:Value} (hr:RepV w g st d v):RepV w' g' st' d v := hr.mono h.im h.evo
theorem RepV.oneCell {w:World} {g:Ghost} {st:St} {d:D} {v:Value} (h:RepV w g st d v) (hd:d.isCell = true):v.oneCell' = true := by
 cases h <;> first
  | rfl
  | assumption
  | (simp [D.isCell] at hd; done)
theorem pure1_cell {d:D} (h:d.pure1 = true):d.isCell = true := by
 cases d <;> simp_all [D.pure1,D.isCell]
theorem cell?_add (w:World) (b o n:Nat):w.cell? ((⟨b,o,none⟩:Addr).add n) = w.cell? ⟨b,o + n,none⟩ := by
 unfold Addr.add
 split
 ·rename_i h; subst h; rfl
 ·rfl
theorem add_lit (b o n:Nat):((⟨b,o,none⟩:Addr).add n) = ⟨b,o + n,none⟩ := by
 unfold Addr.add
 split
 ·rename_i h; subst h; rfl
 ·rfl
end Go.Proofs.YtlleccmnjpcogaaDoor.PI
