/-
  tbox: the reference's search, carried out.
  Conditions: none; these are lemmas.
-/
import Derived.Test.YtgppecaeegaooaaTbE
namespace Go.Proofs.Ytgppecaeegaooaa.PI
open Go
set_option linter.unusedSimpArgs false
set_option linter.unusedVariables false
theorem stPt (sz : Nat) {p : List Int} (hp : p.length = 16) (i : Nat) (v : Int) (h : i < 16) : stO (some ⟨false, sz, p.map nI, false⟩) 1 i (.int .i64 v) = some ⟨false, sz, (p.set i v).map nI, false⟩ := stO_set sz nI (fun _ => rfl) p i v (by omega)
theorem srch_len {d : Bx} (hd : Dom d) (m : Nat) (hm : m ≤ 16) (l : List Bx) (v : List Int) (hv : v.length = 16) : (srch d m l v).1.length = 16 := (srch_spec hd m hm l v hv).1
end Go.Proofs.Ytgppecaeegaooaa.PI
