/-
  From the model's operations to the pure ones; that each operation of the model does what its pure counterpart does.
  Conditions: none; these are definitions and lemmas.
-/
import Derived.Test.YtlleccmnjpcogaaDoorEngC
set_option linter.unusedVariables false
set_option linter.unusedSimpArgs false
namespace Go.Proofs.YtlleccmnjpcogaaDoor.PI
open Go Go.RowKit
def const1:Value → Option D
 | .bool b => some (.bool b)
 | .int k n => some (.int k n)
 | .string s => some (.str s.data.toList)
 | .pointer none => some .nilp
 | .map none => some .nilm
 | .nilFunc => some .nilf
 | .slice none 0 0 => some (.slc 0 [] true)
 | _ => none
def constL:List Value → Option (List D)
 | [] => some []
 | v :: l => match const1 v,constL l with
  | some x,some y => some (x :: y)
  | _,_ => none
def constD:Value → Option D
 | .agg cs => (constL cs.toList).map .agg
 | .tuple _ => none
 | v => const1 v
def trA:Operand → Option PA
 | .tmp t => some (.s t)
 | .const v => (constD v).map .c
 | .global g => some (.g g)
 | .func f => if f < 5000000 then some (.c (.clo f [])) else none
def trAs:List Operand → Option (List PA)
 | [] => some []
 | x :: l => match trA x,trAs l with
  | some a,some b => some (a :: b)
  | _,_ => none
def trO:Option Operand → Option (Option PA)
 | none => some none
 | some x => (trA x).map some
def agOf (P:Program) (t:TypeId):Option Bool := match P.underlying t with
 | some (.struct _) | some (.array _ _) => some true
 | some _ => some false
 | none => none
def szOf (P:Program) (t:TypeId):Option Nat := (P.info? t).map (·.size)
def zrOf (P:Program) (t:TypeId):Option D := match P.info? t with
 | some i => match i.zero with
  | some v => constD v
  | none => none
 | none => none
theorem const1_rep {w:World} {g:Ghost} {st:St} {v:Value} {d:D} (h:const1 v = some d):RepV w g st d v ∧ d.pure1 = true := by
 unfold const1 at h
 split at h <;> simp at h <;> subst h
 ·exact ⟨.bool _,rfl⟩
 ·exact ⟨.int _ _,rfl⟩
 ·refine ⟨?_,rfl⟩
  rename_i s
  have:s = ⟨s.data.toList.toArray⟩ := by rw [Array.toArray_toList]
  conv => rhs; rw [this]
  exact .str _
 ·exact ⟨.nilp,rfl⟩
 ·exact ⟨.nilm,rfl⟩
 ·exact ⟨.nilf,rfl⟩
 ·exact ⟨.slcE 0 true none 0 (fun _ => rfl),rfl⟩
theorem constL_rep {w:World} {g:Ghost} {st:St}:∀ {vs:List Value} {ds:List D},constL vs = some ds → ds.length = vs.length ∧ (∀ (i:Nat) d v,ds[i]? = some d → vs[i]? = some v → RepV w g st d v) ∧ ∀ d ∈ ds,d.pure1 = true
 | [],ds,h => by simp [constL] at h; subst h; exact ⟨rfl,fun i d v h => by simp at h,fun d h => by cases h⟩
 | v :: l,ds,h => by
  unfold constL at h
  split at h
  ·rename_i x y hx hy
   simp at h; subst h
   obtain ⟨h1,h2,h3⟩ := constL_rep (w := w) (g := g) (st := st) hy
   have h4 := const1_rep (w := w) (g := g) (st := st) hx
   refine ⟨by simp [h1],?_,?_⟩
   ·intro i d u hd hu
    cases i with
    | zero => simp at hd hu; subst hd; subst hu; exact h4.1
    | succ i => simp at hd hu; exact h2 i d u hd hu
   ·intro d hd
    rcases List.mem_cons.1 hd with rfl | hd
    ·exact h4.2
    ·exact h3 d hd
  ·cases h
theorem constD_rep {w:World} {g:Ghost} {st:St} {v:Value} {d:D} (h:constD v = some d):RepV w g st d v := by
 unfold constD at h
 split at h
 ·rename_i cs
  cases hc:constL cs.toList with
  | none => simp [hc] at h
  | some ds =>
   simp [hc] at h; subst h
   obtain ⟨h1,h2,_⟩ := constL_rep (w := w) (g := g) (st := st) hc
   have := RepV.agg ds cs.toList h1 h2
   rwa [Array.toArray_toList] at this
 ·cases h
 ·exact (const1_rep h).1
theorem RepV.pure {w w':World} {g g':Ghost} {st st':St} {d:D} {v:Value} (hI:ImLe w g w' g') (h:RepV w g st d v) (hp:d.pure1 = true):RepV w' g' st' d v := by
 revert hp
 induction h with
 | int k n => exact fun _ => .int k n
 | bool b => exact fun _ => .bool b
 | str s => exact fun _ => .str s
 | nilp => exact fun _ => .nilp
 | nilm => exact fun _ => .nilm
 | gmap es b ents clock h1 h2 h3 => exact fun _ => .gmap es b ents clock (hI.kp _ _ h1 h2) h2 h3
 | slcE sz t a cap h => exact fun _ => .slcE sz t a cap h
 | slc els t b off cap sz val h1 h2 h3 h3' h4 h5 h6 _ ih =>
  exact fun _ => .slc els t b off cap sz val h1 h2 h3 h3' h4 h5 (fun i j d hd => ⟨(hI.im _ _ (h6 i j d hd).1).1,(hI.im _ _ (h6 i j d hd).1).2.trans (h6 i j d hd).2⟩) (fun i j d hd => ih i j d hd (h3' i j d hd))
 | clo f ds vs h1 h2 =>
  intro hp
  cases ds with
  | nil => exact .clo f [] vs h1 (fun i d v h => by simp at h)
  | cons x l => cases hp
 | nilf => exact fun _ => .nilf
 | row => intro h; cases h
 | bsl => intro h; cases h
 | mapv => intro h; cases h
 | ptr => intro h; cases h
 | rptr => intro h; cases h
 | eptr => intro h; cases h
 | agg => intro h; cases h
 | tup => intro h; cases h
 | junk => intro h; cases h
theorem RepV.eptr_any {w w':World} {g g':Ghost} {st st':St} {d:D} {n:Nat} {v:Value} (hI:ImLe w g w' g') (h:RepV w g st (.eptr d n) v):RepV w' g' st' (.eptr d n) v := by
 cases h with
 | eptr _ _ b o val h0 h1 h2 => exact .eptr d n b o val h0 (fun j d hd => ⟨(hI.im _ _ (h1 j d hd).1).1,(hI.im _ _ (h1 j d hd).1).2.trans (h1 j d hd).2⟩) (fun j d hd => (h2 j d hd).pure hI (h0 j d hd))
theorem RepV.purA {w w':World} {g g':Ghost} {st st':St} {d:D} {v:Value} (hI:ImLe w g w' g') (h:RepV w g st d v) (hp:purA d = true):RepV w' g' st' d v := by
 cases h with
 | agg ds vs h1 h2 =>
  simp only [PI.purA,List.all_eq_true] at hp
  exact .agg ds vs h1 fun i d v hd hv => (h2 i d v hd hv).pure hI (hp d (List.mem_of_getElem? hd))
 | int k n => exact .int k n
 | bool b => exact .bool b
 | str s => exact .str s
 | nilp => exact .nilp
 | nilm => exact .nilm
 | gmap es b ents clock h1 h2 h3 => exact .gmap es b ents clock (hI.kp _ _ h1 h2) h2 h3
 | slcE sz t a cap h => exact .slcE sz t a cap h
 | slc els t b off cap sz val h1 h2 h3 h3' h4 h5 h6 h7 => exact RepV.pure hI (.slc els t b off cap sz val h1 h2 h3 h3' h4 h5 h6 h7) rfl
 | clo f ds vs h1 h2 => exact RepV.pure hI (.clo f ds vs h1 h2) hp
 | nilf => exact .nilf
 | row => cases hp
 | bsl => cases hp
 | mapv => cases hp
 | ptr => cases hp
 | rptr => cases hp
 | eptr => cases hp
 | tup => cases hp
 | junk => cases hp
theorem RepV.purR {w w':World} {g g':Ghost} {st st':St} {d:D} {v:Value} (hI:ImLe w g w' g') (h:RepV w g st d v) (hp:purR d = true):RepV w' g' st' d v := by
 cases d with
 | tup l =>
  cases h with
  | tup _ vs h1 h2 =>
   simp only [PI.purR,List.all_eq_true] at hp
   exact .tup l vs h1 fun i d v hd hv => (h2 i d v hd hv).purA hI (hp d (List.mem_of_getElem? hd))
 | _ => exact h.purA hI hp
def GlobOK (G:Glob) (w:World) (g:Ghost):Prop := ∀ n d,G n = some d → RepV w g [] (.eptr d 0) (.pointer (some ⟨n,0,none⟩))
theorem GlobOK.mono {G:Glob} {w w':World} {g g':Ghost} (h:GlobOK G w g) (hI:ImLe w g w' g'):GlobOK G w' g' := fun n d hd => (h n d hd).eptr_any hI
def FR (w:World) (g:Ghost) (st:St) (fr:Frame) (a:Act):Prop := ∀ s,RepV w g st (fr s) (a.tmps.getD s undef)
theorem FR.mono {w w':World} {g g':Ghost} {st st':St} {fr:Frame} {a:Act} (h:FR w g st fr a) (hI:ImLe w g w' g') (hE:Evo g st g' st'):FR w' g' st' fr a := fun s => (h s).mono hI hE
theorem FR.put {w:World} {g:Ghost} {st:St} {fr:Frame} {a:Act} {dst:Option Nat} {d:D} {v:Value} (h:FR w g st fr a) (hd:∀ t,dst = some t → t < a.tmps.size) (hr:RepV w g st d v):FR w g st (fr.put dst d) (a.put dst v) := by
 intro s
 cases dst with
 | none => exact h s
 | some t =>
  have ht := hd t rfl
  simp only [Frame.put,Frame.set,Act.put]
  by_cases e:s = t
  ·subst e; simp [ht]; exact hr
  ·rw [if_neg e]
   have := h s
   simpa [Array.getElem?_setIfInBounds,show ¬ t = s by omega] using this
theorem trA_rep {G:Glob} {w:World} {g:Ghost} {st:St} {fr:Frame} {a:Act} {x:Operand} {pa:PA} (hG:GlobOK G w g) (hF:FR w g st fr a) (h:trA x = some pa):RepV w g st (rho G fr pa) (a.eval x) := by
 cases x with
 | tmp t => simp [trA] at h; subst h; exact hF t
 | const v =>
  cases hc:constD v with
  | none => simp [trA,hc] at h
  | some d => simp [trA,hc] at h; subst h; exact constD_rep hc
 | global n =>
  simp [trA] at h; subst h
  simp only [rho]
  cases hg:G n with
  | none => exact .junk _
  | some d => exact (hG n d hg).eptr_any (ImLe.refl _ _)
 | func f =>
  simp only [trA] at h
  split at h
  case isFalse => cases h
  rename_i hf
  simp only [Option.some.injEq] at h; subst h
  have := RepV.clo (w := w) (g := g) (st := st) f [] [] rfl (fun i d v h => by simp at h)
  rw [fnOf_lt hf,firstOf_nil,capsOf_nil] at this
  exact this
end Go.Proofs.YtlleccmnjpcogaaDoor.PI
