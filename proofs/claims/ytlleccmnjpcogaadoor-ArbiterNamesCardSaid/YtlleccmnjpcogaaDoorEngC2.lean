/-
  A copy of a slice: a function that first asks whether its slice is nil.
  Conditions: none; these are lemmas.
-/
import Derived.Test.YtlleccmnjpcogaaDoorEngR
import Derived.Laws.Cover3
set_option linter.unusedVariables false
set_option linter.unusedSimpArgs false
namespace Go.Proofs.YtlleccmnjpcogaaDoor.PI
open Go
set_option linter.unusedSimpArgs false
set_option linter.unusedVariables false
section
variable {P:Program} {G:Glob} {T:Tbl} {il:List Nat}
end
end Go.Proofs.YtlleccmnjpcogaaDoor.PI
