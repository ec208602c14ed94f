/-
  DERIVED. GIVEN WITH THE SEED: THE PROGRAM's TIES (one call each: nine closed facts by the kernel) AND EACH ROW's TIE, after the 31st guide's Derived/Test/Toyas{Tie, Card}.lean. No idea stands in it: it is a product of the set-up. Laid BY PROGRAM, IN A SANDBOX (cutbox-door.mjs). By AI agents, Wed Nov 11 2026. No macro, syntax, notation, axiom, sorry.
-/
import Derived.Test.YtdngljdbgepaiaaGreatDoorRows
import Derived.LaidByTextLater
import Derived.SevenTiedAt
import Derived.LaidSub
import Derived.LaidOnce
namespace Go.Proofs.YtdngljdbgepaiaaGreatDoor
open Go
set_option maxRecDepth 100000
theorem seatTie1 : Tryz.prog.laidByTextLater [("errors.errorType", Rows.laid_errors_errorType), ("heartwood/sha.constants", Rows.laid_heartwood_sha_constants), ("heartwood/sha.first", Rows.laid_heartwood_sha_first)] [.handle, .data, .data] true :=
  Program.laidByTextLater_by_one 26 8 65 (by kernel_rfl) (by kernel_rfl) (by kernel_rfl) (by kernel_rfl) (by kernel_rfl) (by kernel_rfl) (fun _ _ => by kernel_rfl)
theorem noOwnUnsafe : Tryz.pinned.checked.prog.headLifts.contains "ownunsafe" = false := by kernel_rfl
theorem tie : Tryz.prog.laidByTextLater [("errors.errorType", Rows.laid_errors_errorType), ("heartwood/sha.constants", Rows.laid_heartwood_sha_constants), ("heartwood/sha.first", Rows.laid_heartwood_sha_first)] [.handle, .data, .data] true :=
  Program.laidByTextLater.sub seatTie1 ["errors.errorType", "heartwood/sha.constants", "heartwood/sha.first"] (by kernel_rfl) (by kernel_rfl)
theorem chunkJoins_row_tie : Rows.chunkJoinsRow.laidByTextAt .later Tryz.pinned [.handle, .data, .data] true :=
  OpenClaim.laidByTextAt_later rfl rfl tie noOwnUnsafe
theorem chunkJoinsUpto_row_tie : Rows.chunkJoinsUptoRow.laidByTextAt .later Tryz.pinned [.handle, .data, .data] true :=
  OpenClaim.laidByTextAt_later rfl rfl tie noOwnUnsafe
end Go.Proofs.YtdngljdbgepaiaaGreatDoor
