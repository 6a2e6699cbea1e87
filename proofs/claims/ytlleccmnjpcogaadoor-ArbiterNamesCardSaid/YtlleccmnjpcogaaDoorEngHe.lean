/-
  A function that, behind a test, puts off a call which recovers: its contract out of what its code comes to.
  Conditions: none; these are definitions and lemmas.
-/
import Derived.Test.YtlleccmnjpcogaaDoorEngHd
set_option linter.unusedVariables false
set_option linter.unusedSimpArgs false
namespace Go.Proofs.YtlleccmnjpcogaaDoor.PI
open Go Go.RowKit
structure PFE where
 init:PC
 tail:PFD
 deriving Inhabited
noncomputable def PFD.from (G:Glob) (T:Tbl) (H:HTbl) (F:PFD) (fuel:Nat) (s:PS):Option (D × St) :=
 match execs G T F.pre s with
 | some s1 => match putOff (rho G s1.fr F.hf) (F.ha.map (rho G s1.fr)) with
  | some (f,das) => match H f with
   | some h => match F.code.exec G T fuel s1 with
    | some (.next,s) | some (.ret,s) => (raws s F.res).map fun l => (pack l,s.st)
    | some (.panic t d,s) => match h t d das s.st with
     | some st3 => (raws ⟨s.fr,st3⟩ F.res).map fun l => (pack l,st3)
     | none => none
    | _ => none
   | none => none
  | none => none
 | none => none
noncomputable def PFE.runI (G:Glob) (T:Tbl) (H:HTbl) (F:PFE) (fuel:Nat) (ds:List D) (st:St):Option (D × St) :=
 match F.init.exec G T fuel { fr := argF ds,st } with
 | some (.next,s) => F.tail.from G T H fuel s
 | some (.ret,s) => (raws s F.tail.res).map fun l => (pack l,s.st)
 | _ => none
section
variable {P:Program} {G:Glob} {T:Tbl} {il:List Nat}
def thenD (G:Glob) (T:Tbl) (F:PFD) (H:HTbl) (Kr:Frame → St → Prop) (K:(Nat → D → List D → St → Option St) → List D → Ex → Frame → St → Prop) (e:Ex) (fr:Frame) (st:St):Prop := match e with
 | .next => @wOps G T F.pre fr st ⟨fun fr1 st1 => @on _ (putOff (rho G fr1 F.hf) (F.ha.map (rho G fr1))) ⟨fun p => @on _ (H p.1) ⟨fun h => @wW G T F.code fr1 st1 ⟨K h p.2⟩⟩⟩⟩
 | .ret => Kr fr st
 | _ => False
theorem thenD_next (G:Glob) (T:Tbl) (F:PFD) (H:HTbl) (Kr:Frame → St → Prop) (K:(Nat → D → List D → St → Option St) → List D → Ex → Frame → St → Prop) (fr:Frame) (st:St) :
  thenD G T F H Kr K .next fr st = @wOps G T F.pre fr st ⟨fun fr1 st1 => @on _ (putOff (rho G fr1 F.hf) (F.ha.map (rho G fr1))) ⟨fun p => @on _ (H p.1) ⟨fun h => @wW G T F.code fr1 st1 ⟨K h p.2⟩⟩⟩⟩ := (rfl)
theorem thenD_ret (G:Glob) (T:Tbl) (F:PFD) (H:HTbl) (Kr:Frame → St → Prop) (K:(Nat → D → List D → St → Option St) → List D → Ex → Frame → St → Prop) (fr:Frame) (st:St):thenD G T F H Kr K .ret fr st = Kr fr st := (rfl)
end
attribute [irreducible] thenD
attribute [push_cast] thenD_next thenD_ret
end Go.Proofs.YtlleccmnjpcogaaDoor.PI
