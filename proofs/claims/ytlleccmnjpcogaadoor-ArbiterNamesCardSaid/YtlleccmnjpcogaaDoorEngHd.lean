/-
  Functions that panic, and functions that put off a call which recovers: their contracts out of what their code comes to.
  Conditions: none; these are definitions and lemmas.
-/
import Derived.RecoverIn
import Derived.Test.YtlleccmnjpcogaaDoorEngC2
import Derived.Test.YtlleccmnjpcogaaDoorEngV2
set_option linter.unusedVariables false
set_option linter.unusedSimpArgs false
namespace Go.Proofs.YtlleccmnjpcogaaDoor.PI
open Go Go.RowKit
section
variable {P:Program} {G:Glob} {T:Tbl} {base n:Nat} {w:World} {g:Ghost} {st:St}
theorem icontract_on {il:List Nat} {f:Nat} {hints:List (List Nat)} {F:PF} (ht:trF P il f hints = some F) (hT:TblOK P G T) {sp:List D → St → Option (D × St)}
  (h:∀ ds st r,sp ds st = some r → @wW G T F.code (argF ds) st ⟨@retI F.res ⟨fun d st' => (lowR st.length d,cut st.length st') = r⟩⟩) (hy:T.y = fun _ _ _ => none := by rfl):IContract P G f sp := by
 refine fun_specI hT ht (fun ds st x hx => ?_) hy
 obtain ⟨fuel,d,st',h1,h2⟩ := runI_of_W (W_of (h ds st x hx))
 refine ⟨fuel,?_⟩
 unfold dropped
 rw [h1 fuel (Nat.le_refl _)]
 exact congrArg some h2
theorem icontract_keep' {il:List Nat} {f:Nat} {hints:List (List Nat)} {F:PF} (ht:trF P il f hints = some F) (hT:TblOK P G T) {sp:List D → St → Option (D × St)}
  (h:∀ ds st r,sp ds st = some r → @wW G T F.code (argF ds) st ⟨@retI F.res ⟨fun d st' => (d,st') = r⟩⟩) (hy:T.y = fun _ _ _ => none := by rfl):IContract P G f sp := by
 refine ⟨(fun_simI hT hy ht 0).1,?_⟩
 intro base w g st st' ds vs d hsp hS hG hl hrep
 obtain ⟨k,d1,st1,h1,h2⟩ := runI_of_W (W_of (h ds st _ hsp))
 simp only [Prod.mk.injEq] at h2
 obtain ⟨rfl,rfl⟩ := h2
 exact (fun_simI hT hy ht k).2 base w g st _ ds vs _ (h1 k (Nat.le_refl _)) hS hG hl hrep
theorem Contract.or {f:Nat} {sp sp1 sp2:List D → Option D} (h1:Contract P G f sp1) (h2:Contract P G f sp2) (h:∀ ds d,sp ds = some d → sp1 ds = some d ∨ sp2 ds = some d):Contract P G f sp := by
 intro w g ds vs d hd
 rcases h ds d hd with h | h
 ·exact h1 w g ds vs d h
 ·exact h2 w g ds vs d h
theorem IContract.or {f:Nat} {sp sp1 sp2:List D → St → Option (D × St)} (h1:IContract P G f sp1) (h2:IContract P G f sp2) (h:∀ ds st r,sp ds st = some r → sp1 ds st = some r ∨ sp2 ds st = some r):IContract P G f sp := by
 refine ⟨h1.1,?_⟩
 intro base w g st st' ds vs d hsp
 rcases h ds st _ hsp with h3 | h3
 ·exact h1.2 base w g st st' ds vs d h3
 ·exact h2.2 base w g st st' ds vs d h3
def overSt (sp:List D → Option D) (ds:List D) (st:St):Option (D × St) := match imms st ds with
 | some vs => match sp vs with
  | some r => some (r,if r.noRef then st else PI.lend (ds.flatMap keys) st)
  | none => none
 | none => none
theorem Contract.toI {f:Nat} {sp:List D → Option D} (h:Contract P G f sp) {fn:Func} (hfn:P.funcs[f]? = some fn) (hb:fn.body.isSome = true) (hname:(fn.name == "runtime.NumGoroutine") = false):IContract P G f (overSt sp) := by
 refine ⟨⟨fn,hfn,hb,hname⟩,?_⟩
 intro base w g st st' ds vs d hsp hS hG hl hrep
 unfold overSt at hsp
 split at hsp
 case h_2 => cases hsp
 rename_i ys hi
 split at hsp
 case h_2 => cases hsp
 rename_i r hr
 simp only [Option.some.injEq,Prod.mk.injEq] at hsp
 obtain ⟨rfl,rfl⟩ := hsp
 obtain ⟨g1,hgo,_,hyl,hpure,hyr⟩ := lend_args hS hi
 have hc := h w g1 ys vs r hr (hG.mono hgo.im) hgo.sr.im (hyl.trans hl) (fun i y v hy hv => (hyr i y v hy (fun d hd => hrep i d v hd hv)).purA (ImLe.refl _ _) (hpure y (List.mem_of_getElem? hy))) hpure
 refine hc.mono ?_
 rintro e w' ⟨v,g',rfl,h1,h2,h3,h4,h5,h6⟩
 have hbes:Beside w w' := ⟨h6.os,h6.tape,h6.output,h6.size⟩
 by_cases hnr:r.noRef = true
 ·refine ⟨v,{ g with Im := g.Im },rfl,?_,by rw [if_pos hnr]; exact noRef_rep h1 hnr⟩
  rw [if_pos hnr]
  refine hS.more hbes h6.block (fun _ _ h => h) (fun _ _ h => .inl h) (fun b o hb => ?_)
  have:w'.cell? ⟨b,o,none⟩ = w.cell? ⟨b,o,none⟩ := by simp only [World.cell?,h6.block b (hS.im_lt hb)]
  rw [this]; exact hS.im b o hb
 ·refine ⟨v,{ g1 with Im := g'.Im },rfl,?_,?_⟩
  ·rw [if_neg hnr]
   exact hgo.trans (hgo.sr.more hbes h6.block (fun b o h => (h3.im b o h).1) (fun b o h => h4 b o h) h5)
  ·exact RepV.purR (g := g') (g' := { g1 with Im := g'.Im }) ⟨fun b o h => ⟨h,rfl⟩,fun _ _ h _ => h⟩ h1 h2
def noT:Tbl := { p := fun _ => none,i := fun _ => none,m := fun _ => none }
structure PH where
 t:Nat
 js:List Nat
 vs:Nat
 l:List PI
 deriving Inhabited
def junks (fr:Frame):List Nat → Frame
 | [] => fr
 | s :: l => junks (fr.set s .junk) l
def PH.run (G:Glob) (F:PH):Nat → D → List D → St → Option St := fun t d das st =>
 if t = F.t ∧ intsD d = true then (execs G noT F.l ⟨(junks (argF das) F.js).set F.vs d,st⟩).map (·.st) else none
end
end Go.Proofs.YtlleccmnjpcogaaDoor.PI
