/-
  DERIVED. GIVEN WITH THE SEED: THE PROGRAM's TIES (one call each: nine closed facts by the kernel) AND EACH ROW's TIE, after the 31st guide's Derived/Test/Toyas{Tie, Card}.lean. No idea stands in it: it is a product of the set-up. Laid BY PROGRAM, IN A SANDBOX (cutbox-door.mjs). By AI agents, Wed Nov 11 2026. No macro, syntax, notation, axiom, sorry.
-/
import Derived.Test.YtijnglngaogdjaaGreatDoorRows
import Derived.LaidByTextLater
import Derived.SevenTiedAt
import Derived.LaidSub
import Derived.LaidOnce
namespace Go.Proofs.YtijnglngaogdjaaGreatDoor
open Go
set_option maxRecDepth 100000
theorem seatTie1 : Tryz.prog.laidByTextLater [("wagonpool/digest.k", Rows.laid_wagonpool_digest_k), ("wagonpool/tvm.binaries", Rows.laid_wagonpool_tvm_binaries)] [.data, .funcs] true :=
  Program.laidByTextLater_by_one 73 8 65 (by kernel_rfl) (by kernel_rfl) (by kernel_rfl) (by kernel_rfl) (by kernel_rfl) (by kernel_rfl) (fun _ _ => by kernel_rfl)
theorem noOwnUnsafe : Tryz.pinned.checked.prog.headLifts.contains "ownunsafe" = false := by kernel_rfl
theorem tie : Tryz.prog.laidByTextLater [("wagonpool/digest.k", Rows.laid_wagonpool_digest_k), ("wagonpool/tvm.binaries", Rows.laid_wagonpool_tvm_binaries)] [.data, .funcs] true :=
  Program.laidByTextLater.sub seatTie1 ["wagonpool/digest.k", "wagonpool/tvm.binaries"] (by kernel_rfl) (by kernel_rfl)
theorem arbiterMatches_row_tie : Rows.arbiterMatchesRow.laidByTextAt .later Tryz.pinned [.data, .funcs] true :=
  OpenClaim.laidByTextAt_later rfl rfl tie noOwnUnsafe
theorem courtDecides_row_tie : Rows.courtDecidesRow.laidByTextAt .later Tryz.pinned [.data, .funcs] true :=
  OpenClaim.laidByTextAt_later rfl rfl tie noOwnUnsafe
theorem courtDefaults_row_tie : Rows.courtDefaultsRow.laidByTextAt .later Tryz.pinned [.data, .funcs] true :=
  OpenClaim.laidByTextAt_later rfl rfl tie noOwnUnsafe
theorem courtEnds_row_tie : Rows.courtEndsRow.laidByTextAt .later Tryz.pinned [.data, .funcs] true :=
  OpenClaim.laidByTextAt_later rfl rfl tie noOwnUnsafe
theorem courtMatchesReference_row_tie : Rows.courtMatchesReferenceRow.laidByTextAt .later Tryz.pinned [.data, .funcs] true :=
  OpenClaim.laidByTextAt_later rfl rfl tie noOwnUnsafe
theorem courtOpens_row_tie : Rows.courtOpensRow.laidByTextAt .later Tryz.pinned [.data, .funcs] true :=
  OpenClaim.laidByTextAt_later rfl rfl tie noOwnUnsafe
theorem courtProves_row_tie : Rows.courtProvesRow.laidByTextAt .later Tryz.pinned [.data, .funcs] true :=
  OpenClaim.laidByTextAt_later rfl rfl tie noOwnUnsafe
theorem courtRefuses_row_tie : Rows.courtRefusesRow.laidByTextAt .later Tryz.pinned [.data, .funcs] true :=
  OpenClaim.laidByTextAt_later rfl rfl tie noOwnUnsafe
theorem courtSettles_row_tie : Rows.courtSettlesRow.laidByTextAt .later Tryz.pinned [.data, .funcs] true :=
  OpenClaim.laidByTextAt_later rfl rfl tie noOwnUnsafe
theorem arbiterMatchesUpto_row_tie : Rows.arbiterMatchesUptoRow.laidByTextAt .later Tryz.pinned [.data, .funcs] true :=
  OpenClaim.laidByTextAt_later rfl rfl tie noOwnUnsafe
theorem courtDecidesUpto_row_tie : Rows.courtDecidesUptoRow.laidByTextAt .later Tryz.pinned [.data, .funcs] true :=
  OpenClaim.laidByTextAt_later rfl rfl tie noOwnUnsafe
theorem courtDefaultsUpto_row_tie : Rows.courtDefaultsUptoRow.laidByTextAt .later Tryz.pinned [.data, .funcs] true :=
  OpenClaim.laidByTextAt_later rfl rfl tie noOwnUnsafe
theorem courtEndsUpto_row_tie : Rows.courtEndsUptoRow.laidByTextAt .later Tryz.pinned [.data, .funcs] true :=
  OpenClaim.laidByTextAt_later rfl rfl tie noOwnUnsafe
theorem courtMatchesReferenceUpto_row_tie : Rows.courtMatchesReferenceUptoRow.laidByTextAt .later Tryz.pinned [.data, .funcs] true :=
  OpenClaim.laidByTextAt_later rfl rfl tie noOwnUnsafe
theorem courtOpensUpto_row_tie : Rows.courtOpensUptoRow.laidByTextAt .later Tryz.pinned [.data, .funcs] true :=
  OpenClaim.laidByTextAt_later rfl rfl tie noOwnUnsafe
theorem courtProvesUpto_row_tie : Rows.courtProvesUptoRow.laidByTextAt .later Tryz.pinned [.data, .funcs] true :=
  OpenClaim.laidByTextAt_later rfl rfl tie noOwnUnsafe
theorem courtRefusesUpto_row_tie : Rows.courtRefusesUptoRow.laidByTextAt .later Tryz.pinned [.data, .funcs] true :=
  OpenClaim.laidByTextAt_later rfl rfl tie noOwnUnsafe
theorem courtSettlesUpto_row_tie : Rows.courtSettlesUptoRow.laidByTextAt .later Tryz.pinned [.data, .funcs] true :=
  OpenClaim.laidByTextAt_later rfl rfl tie noOwnUnsafe
end Go.Proofs.YtijnglngaogdjaaGreatDoor
