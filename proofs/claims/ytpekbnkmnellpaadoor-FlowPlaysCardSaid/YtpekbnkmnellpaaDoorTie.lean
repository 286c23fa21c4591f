/-
  DERIVED. GIVEN WITH THE SEED: THE PROGRAM's TIES (one call each: nine closed facts by the kernel) AND EACH ROW's TIE, after the 31st guide's Derived/Test/Toyas{Tie, Card}.lean. No idea stands in it: it is a product of the set-up. Laid BY PROGRAM, IN A SANDBOX (cutbox-door.mjs). By AI agents, Wed Nov 11 2026. No macro, syntax, notation, axiom, sorry.
-/
import Derived.Test.YtpekbnkmnellpaaDoorRows
import Derived.LaidByTextLater
import Derived.SevenTiedAt
import Derived.LaidSub
import Derived.LaidOnce
namespace Go.Proofs.YtpekbnkmnellpaaDoor
open Go
set_option maxRecDepth 100000
theorem seatTie1 : Tryd.prog.laidByTextLater [("voussoir/voussoirref01.k", Rows.laid_voussoir_voussoirref01_k), ("voussoir/voussoirref01.first", Rows.laid_voussoir_voussoirref01_first), ("voussoir/sha.k", Rows.laid_voussoir_sha_k), ("voussoir/sha.first", Rows.laid_voussoir_sha_first)] [.data, .widerDeep, .data, .wider] true :=
  Program.laidByTextLater_by_one 29 8 65 (by kernel_rfl) (by kernel_rfl) (by kernel_rfl) (by kernel_rfl) (by kernel_rfl) (by kernel_rfl) (fun _ _ => by kernel_rfl)
theorem noOwnUnsafe : Tryd.pinned.checked.prog.headLifts.contains "ownunsafe" = false := by kernel_rfl
theorem tie : Tryd.prog.laidByTextLater [("voussoir/sha.k", Rows.laid_voussoir_sha_k), ("voussoir/sha.first", Rows.laid_voussoir_sha_first)] [.data, .wider] true :=
  Program.laidByTextLater.sub seatTie1 ["voussoir/sha.k", "voussoir/sha.first"] (by kernel_rfl) (by kernel_rfl)
theorem flowApart_row_tie : Rows.flowApartRow.laidByTextAt .later Tryd.pinned [.data, .wider] true :=
  OpenClaim.laidByTextAt_later rfl rfl tie noOwnUnsafe
theorem flowTakes_row_tie : Rows.flowTakesRow.laidByTextAt .later Tryd.pinned [.data, .wider] true :=
  OpenClaim.laidByTextAt_later rfl rfl tie noOwnUnsafe
theorem flowCounts_row_tie : Rows.flowCountsRow.laidByTextAt .later Tryd.pinned [.data, .wider] true :=
  OpenClaim.laidByTextAt_later rfl rfl tie noOwnUnsafe
theorem channelOpens_row_tie : Rows.channelOpensRow.laidByTextAt .later Tryd.pinned [.data, .wider] true :=
  OpenClaim.laidByTextAt_later rfl rfl tie noOwnUnsafe
theorem flowOnce_row_tie : Rows.flowOnceRow.laidByTextAt .later Tryd.pinned [.data, .wider] true :=
  OpenClaim.laidByTextAt_later rfl rfl tie noOwnUnsafe
theorem flowCopies_row_tie : Rows.flowCopiesRow.laidByTextAt .later Tryd.pinned [.data, .wider] true :=
  OpenClaim.laidByTextAt_later rfl rfl tie noOwnUnsafe
theorem channelBack_row_tie : Rows.channelBackRow.laidByTextAt .later Tryd.pinned [.data, .wider] true :=
  OpenClaim.laidByTextAt_later rfl rfl tie noOwnUnsafe
theorem channelWhole_row_tie : Rows.channelWholeRow.laidByTextAt .later Tryd.pinned [.data, .wider] true :=
  OpenClaim.laidByTextAt_later rfl rfl tie noOwnUnsafe
theorem tie2 : Tryd.prog.laidByTextLater [("voussoir/voussoirref01.k", Rows.laid_voussoir_voussoirref01_k), ("voussoir/voussoirref01.first", Rows.laid_voussoir_voussoirref01_first), ("voussoir/sha.k", Rows.laid_voussoir_sha_k), ("voussoir/sha.first", Rows.laid_voussoir_sha_first)] [.data, .widerDeep, .data, .wider] true :=
  Program.laidByTextLater.sub seatTie1 ["voussoir/voussoirref01.k", "voussoir/voussoirref01.first", "voussoir/sha.k", "voussoir/sha.first"] (by kernel_rfl) (by kernel_rfl)
theorem flowPlays_row_tie : Rows.flowPlaysRow.laidByTextAt .later Tryd.pinned [.data, .widerDeep, .data, .wider] true :=
  OpenClaim.laidByTextAt_later rfl rfl tie2 noOwnUnsafe
theorem channelTells_row_tie : Rows.channelTellsRow.laidByTextAt .later Tryd.pinned [.data, .widerDeep, .data, .wider] true :=
  OpenClaim.laidByTextAt_later rfl rfl tie2 noOwnUnsafe
theorem flowApartUpto_row_tie : Rows.flowApartUptoRow.laidByTextAt .later Tryd.pinned [.data, .wider] true :=
  OpenClaim.laidByTextAt_later rfl rfl tie noOwnUnsafe
theorem flowTakesUpto_row_tie : Rows.flowTakesUptoRow.laidByTextAt .later Tryd.pinned [.data, .wider] true :=
  OpenClaim.laidByTextAt_later rfl rfl tie noOwnUnsafe
theorem flowCountsUpto_row_tie : Rows.flowCountsUptoRow.laidByTextAt .later Tryd.pinned [.data, .wider] true :=
  OpenClaim.laidByTextAt_later rfl rfl tie noOwnUnsafe
theorem channelOpensUpto_row_tie : Rows.channelOpensUptoRow.laidByTextAt .later Tryd.pinned [.data, .wider] true :=
  OpenClaim.laidByTextAt_later rfl rfl tie noOwnUnsafe
theorem flowOnceUpto_row_tie : Rows.flowOnceUptoRow.laidByTextAt .later Tryd.pinned [.data, .wider] true :=
  OpenClaim.laidByTextAt_later rfl rfl tie noOwnUnsafe
theorem flowCopiesUpto_row_tie : Rows.flowCopiesUptoRow.laidByTextAt .later Tryd.pinned [.data, .wider] true :=
  OpenClaim.laidByTextAt_later rfl rfl tie noOwnUnsafe
theorem flowPlaysUpto_row_tie : Rows.flowPlaysUptoRow.laidByTextAt .later Tryd.pinned [.data, .widerDeep, .data, .wider] true :=
  OpenClaim.laidByTextAt_later rfl rfl tie2 noOwnUnsafe
theorem channelBackUpto_row_tie : Rows.channelBackUptoRow.laidByTextAt .later Tryd.pinned [.data, .wider] true :=
  OpenClaim.laidByTextAt_later rfl rfl tie noOwnUnsafe
theorem channelWholeUpto_row_tie : Rows.channelWholeUptoRow.laidByTextAt .later Tryd.pinned [.data, .wider] true :=
  OpenClaim.laidByTextAt_later rfl rfl tie noOwnUnsafe
theorem channelTellsUpto_row_tie : Rows.channelTellsUptoRow.laidByTextAt .later Tryd.pinned [.data, .widerDeep, .data, .wider] true :=
  OpenClaim.laidByTextAt_later rfl rfl tie2 noOwnUnsafe
end Go.Proofs.YtpekbnkmnellpaaDoor
