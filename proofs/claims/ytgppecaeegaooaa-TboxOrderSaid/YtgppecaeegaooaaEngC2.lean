/-
  A copy of a slice: a function that first asks whether its slice is nil.
  Conditions: none; these are lemmas.
-/
import Derived.Test.YtgppecaeegaooaaEngR
import Derived.Laws.Cover3
namespace Go.Proofs.Ytgppecaeegaooaa.PI
open Go
set_option linter.unusedSimpArgs false
set_option linter.unusedVariables false
section
variable {P : Program} {G : Glob} {T : Tbl} {il : List Nat}
theorem RepV.empty {w : World} {g : Ghost} {st : St} {sz sz' : Nat} {t : Bool} {v : Value} (h : RepV w g st (.slc sz [] t) v) : RepV w g st (.slc sz' [] false) v := by
  cases h with
  | slcE _ _ a cap h => exact .slcE _ _ a cap (fun h => by cases h)
  | slc _ _ b off cap _ val h1 => exact absurd rfl h1
end
end Go.Proofs.Ytgppecaeegaooaa.PI
