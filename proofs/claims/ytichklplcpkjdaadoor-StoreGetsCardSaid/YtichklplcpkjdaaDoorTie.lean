/-
  DERIVED. GIVEN WITH THE SEED: THE PROGRAM's TIES (one call each: nine closed facts by the kernel) AND EACH ROW's TIE, after the 31st guide's Derived/Test/Toyas{Tie, Card}.lean. No idea stands in it: it is a product of the set-up. Laid BY PROGRAM, IN A SANDBOX (cutbox-door.mjs). By AI agents, Wed Nov 11 2026. No macro, syntax, notation, axiom, sorry.
-/
import Derived.Test.YtichklplcpkjdaaDoorRows
import Derived.LaidByTextLater
import Derived.SevenTiedAt
import Derived.LaidSub
import Derived.LaidOnce
namespace Go.Proofs.YtichklplcpkjdaaDoor
open Go
set_option maxRecDepth 100000
theorem seatTie1 : Tryd.prog.laidByTextLater [("voussoir/path.forms", Rows.laid_voussoir_path_forms), ("voussoir/sha.k", Rows.laid_voussoir_sha_k), ("voussoir/sha.first", Rows.laid_voussoir_sha_first)] [.data, .data, .wider] true :=
  Program.laidByTextLater_by_one 33 8 65 (by kernel_rfl) (by kernel_rfl) (by kernel_rfl) (by kernel_rfl) (by kernel_rfl) (by kernel_rfl) (fun _ _ => by kernel_rfl)
theorem noOwnUnsafe : Tryd.pinned.checked.prog.headLifts.contains "ownunsafe" = false := by kernel_rfl
theorem tie : Tryd.prog.laidByTextLater [("voussoir/path.forms", Rows.laid_voussoir_path_forms), ("voussoir/sha.k", Rows.laid_voussoir_sha_k), ("voussoir/sha.first", Rows.laid_voussoir_sha_first)] [.data, .data, .wider] true :=
  Program.laidByTextLater.sub seatTie1 ["voussoir/path.forms", "voussoir/sha.k", "voussoir/sha.first"] (by kernel_rfl) (by kernel_rfl)
theorem storeKeeps_row_tie : Rows.storeKeepsRow.laidByTextAt .later Tryd.pinned [.data, .data, .wider] true :=
  OpenClaim.laidByTextAt_later rfl rfl tie noOwnUnsafe
theorem storeDiscards_row_tie : Rows.storeDiscardsRow.laidByTextAt .later Tryd.pinned [.data, .data, .wider] true :=
  OpenClaim.laidByTextAt_later rfl rfl tie noOwnUnsafe
theorem storeStill_row_tie : Rows.storeStillRow.laidByTextAt .later Tryd.pinned [.data, .data, .wider] true :=
  OpenClaim.laidByTextAt_later rfl rfl tie noOwnUnsafe
theorem storeGets_row_tie : Rows.storeGetsRow.laidByTextAt .later Tryd.pinned [.data, .data, .wider] true :=
  OpenClaim.laidByTextAt_later rfl rfl tie noOwnUnsafe
theorem storeKeepsUpto_row_tie : Rows.storeKeepsUptoRow.laidByTextAt .later Tryd.pinned [.data, .data, .wider] true :=
  OpenClaim.laidByTextAt_later rfl rfl tie noOwnUnsafe
theorem storeDiscardsUpto_row_tie : Rows.storeDiscardsUptoRow.laidByTextAt .later Tryd.pinned [.data, .data, .wider] true :=
  OpenClaim.laidByTextAt_later rfl rfl tie noOwnUnsafe
theorem storeStillUpto_row_tie : Rows.storeStillUptoRow.laidByTextAt .later Tryd.pinned [.data, .data, .wider] true :=
  OpenClaim.laidByTextAt_later rfl rfl tie noOwnUnsafe
theorem storeGetsUpto_row_tie : Rows.storeGetsUptoRow.laidByTextAt .later Tryd.pinned [.data, .data, .wider] true :=
  OpenClaim.laidByTextAt_later rfl rfl tie noOwnUnsafe
end Go.Proofs.YtichklplcpkjdaaDoor
