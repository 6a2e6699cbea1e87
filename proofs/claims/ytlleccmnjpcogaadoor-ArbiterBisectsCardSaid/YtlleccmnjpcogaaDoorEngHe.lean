/-
  A function that, behind a test, puts off a call which recovers: its contract out of what its code comes to.
  Conditions: none; these are definitions and lemmas.
-/
import Derived.Test.YtlleccmnjpcogaaDoorEngHd
namespace Go.Proofs.YtlleccmnjpcogaaDoor.PI
open Go Go.RowKit
structure PFE where
 init:PC
 tail:PFD
 deriving Inhabited
noncomputable def PFD.from (G:Glob) (T:Tbl) (H:HTbl) (F:PFD) (fuel:Nat) (s:PS):Option (D × St) :=
 match execs G T F.pre s with
 | some s1 => match putOff (rho G s1.fr F.hf) (F.ha.map (rho G s1.fr)) with
  | some (f,das) => match H f with
   | some h => match F.code.exec G T fuel s1 with
    | some (.next,s) | some (.ret,s) => (raws s F.res).map fun l => (pack l,s.st)
    | some (.panic t d,s) => match h t d das s.st with
     | some st3 => (raws ⟨s.fr,st3⟩ F.res).map fun l => (pack l,st3)
     | none => none
    | _ => none
   | none => none
  | none => none
 | none => none
noncomputable def PFE.runI (G:Glob) (T:Tbl) (H:HTbl) (F:PFE) (fuel:Nat) (ds:List D) (st:St):Option (D × St) :=
 match F.init.exec G T fuel { fr := argF ds,st } with
 | some (.next,s) => F.tail.from G T H fuel s
 | some (.ret,s) => (raws s F.tail.res).map fun l => (pack l,s.st)
 | _ => none
section
variable {P:Program} {G:Glob} {T:Tbl} {il:List Nat}
end
end Go.Proofs.YtlleccmnjpcogaaDoor.PI
