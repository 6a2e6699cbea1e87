/-
  tbox: the reference's gap.
  Conditions: none; these are lemmas.
-/
import Derived.Test.YtgppecaeegaooaaTbJ
namespace Go.Proofs.Ytgppecaeegaooaa.PI
open Go
set_option linter.unusedSimpArgs false
set_option linter.unusedVariables false
end Go.Proofs.Ytgppecaeegaooaa.PI
