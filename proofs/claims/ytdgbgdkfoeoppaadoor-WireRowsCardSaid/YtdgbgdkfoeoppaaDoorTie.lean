/-
  DERIVED. GIVEN WITH THE SEED: THE PROGRAM's TIES (one call each: nine closed facts by the kernel) AND EACH ROW's TIE, after the 31st guide's Derived/Test/Toyas{Tie, Card}.lean. No idea stands in it: it is a product of the set-up. Laid BY PROGRAM, IN A SANDBOX (cutbox-door.mjs). By AI agents, Wed Nov 11 2026. No macro, syntax, notation, axiom, sorry.
-/
import Derived.Test.YtdgbgdkfoeoppaaDoorRows
import Derived.LaidByTextLater
import Derived.SevenTiedAt
import Derived.LaidSub
import Derived.LaidOnce
namespace Go.Proofs.YtdgbgdkfoeoppaaDoor
open Go
set_option maxRecDepth 100000
theorem seatTie1 : Tryd.prog.laidByTextLater [("breviary/api.ErrEnd", Rows.laid_breviary_api_ErrEnd), ("breviary/api.ErrShape", Rows.laid_breviary_api_ErrShape), ("breviary/api.ErrRange", Rows.laid_breviary_api_ErrRange), ("breviary/api.ErrMany", Rows.laid_breviary_api_ErrMany), ("breviary/api.ErrFull", Rows.laid_breviary_api_ErrFull), ("breviary/api.ErrCrash", Rows.laid_breviary_api_ErrCrash), ("breviary/api.ErrIO", Rows.laid_breviary_api_ErrIO), ("breviary/api.ErrState", Rows.laid_breviary_api_ErrState), ("breviary/api.ErrNoEnt", Rows.laid_breviary_api_ErrNoEnt), ("breviary/api.ErrExist", Rows.laid_breviary_api_ErrExist), ("breviary/api.ErrNotDir", Rows.laid_breviary_api_ErrNotDir), ("breviary/api.ErrIsDir", Rows.laid_breviary_api_ErrIsDir), ("breviary/api.ErrNotEmpty", Rows.laid_breviary_api_ErrNotEmpty), ("breviary/api.ErrInval", Rows.laid_breviary_api_ErrInval), ("breviary/api.ErrLong", Rows.laid_breviary_api_ErrLong), ("breviary/api.ErrLoop", Rows.laid_breviary_api_ErrLoop), ("breviary/api.ErrMLink", Rows.laid_breviary_api_ErrMLink), ("breviary/api.ErrFBig", Rows.laid_breviary_api_ErrFBig), ("breviary/api.ErrNoSpc", Rows.laid_breviary_api_ErrNoSpc), ("breviary/api.ErrMFile", Rows.laid_breviary_api_ErrMFile), ("breviary/api.ErrBadF", Rows.laid_breviary_api_ErrBadF), ("breviary/api.ErrRefused", Rows.laid_breviary_api_ErrRefused), ("breviary/api.ErrWord", Rows.laid_breviary_api_ErrWord), ("breviary/api.ErrNumber", Rows.laid_breviary_api_ErrNumber)] [.sentinel, .sentinel, .sentinel, .sentinel, .sentinel, .sentinel, .sentinel, .sentinel, .sentinel, .sentinel, .sentinel, .sentinel, .sentinel, .sentinel, .sentinel, .sentinel, .sentinel, .sentinel, .sentinel, .sentinel, .sentinel, .sentinel, .sentinel, .sentinel] true :=
  Program.laidByTextLater_by_one 465 8 2 (by kernel_rfl) (by kernel_rfl) (by kernel_rfl) (by kernel_rfl) (by kernel_rfl) (by kernel_rfl) (fun _ _ => by kernel_rfl)
theorem noOwnUnsafe : Tryd.pinned.checked.prog.headLifts.contains "ownunsafe" = false := by kernel_rfl
theorem tie : Tryd.prog.laidByTextLater [("breviary/api.ErrRange", Rows.laid_breviary_api_ErrRange)] [.sentinel] true :=
  Program.laidByTextLater.sub seatTie1 ["breviary/api.ErrRange"] (by kernel_rfl) (by kernel_rfl)
theorem geoQuotas_row_tie : Rows.geoQuotasRow.laidByTextAt .later Tryd.pinned [.sentinel] true :=
  OpenClaim.laidByTextAt_later rfl rfl tie noOwnUnsafe
theorem geoPairs_row_tie : Rows.geoPairsRow.laidByTextAt .later Tryd.pinned [.sentinel] true :=
  OpenClaim.laidByTextAt_later rfl rfl tie noOwnUnsafe
theorem tie2 : Tryd.prog.laidByTextLater [("breviary/api.ErrEnd", Rows.laid_breviary_api_ErrEnd), ("breviary/api.ErrShape", Rows.laid_breviary_api_ErrShape), ("breviary/api.ErrRange", Rows.laid_breviary_api_ErrRange), ("breviary/api.ErrMany", Rows.laid_breviary_api_ErrMany), ("breviary/api.ErrFull", Rows.laid_breviary_api_ErrFull), ("breviary/api.ErrCrash", Rows.laid_breviary_api_ErrCrash), ("breviary/api.ErrIO", Rows.laid_breviary_api_ErrIO), ("breviary/api.ErrState", Rows.laid_breviary_api_ErrState), ("breviary/api.ErrNoEnt", Rows.laid_breviary_api_ErrNoEnt), ("breviary/api.ErrExist", Rows.laid_breviary_api_ErrExist), ("breviary/api.ErrNotDir", Rows.laid_breviary_api_ErrNotDir), ("breviary/api.ErrIsDir", Rows.laid_breviary_api_ErrIsDir), ("breviary/api.ErrNotEmpty", Rows.laid_breviary_api_ErrNotEmpty), ("breviary/api.ErrInval", Rows.laid_breviary_api_ErrInval), ("breviary/api.ErrLong", Rows.laid_breviary_api_ErrLong), ("breviary/api.ErrLoop", Rows.laid_breviary_api_ErrLoop), ("breviary/api.ErrMLink", Rows.laid_breviary_api_ErrMLink), ("breviary/api.ErrFBig", Rows.laid_breviary_api_ErrFBig), ("breviary/api.ErrNoSpc", Rows.laid_breviary_api_ErrNoSpc), ("breviary/api.ErrMFile", Rows.laid_breviary_api_ErrMFile), ("breviary/api.ErrBadF", Rows.laid_breviary_api_ErrBadF), ("breviary/api.ErrRefused", Rows.laid_breviary_api_ErrRefused), ("breviary/api.ErrWord", Rows.laid_breviary_api_ErrWord), ("breviary/api.ErrNumber", Rows.laid_breviary_api_ErrNumber)] [.sentinel, .sentinel, .sentinel, .sentinel, .sentinel, .sentinel, .sentinel, .sentinel, .sentinel, .sentinel, .sentinel, .sentinel, .sentinel, .sentinel, .sentinel, .sentinel, .sentinel, .sentinel, .sentinel, .sentinel, .sentinel, .sentinel, .sentinel, .sentinel] true :=
  Program.laidByTextLater.sub seatTie1 ["breviary/api.ErrEnd", "breviary/api.ErrShape", "breviary/api.ErrRange", "breviary/api.ErrMany", "breviary/api.ErrFull", "breviary/api.ErrCrash", "breviary/api.ErrIO", "breviary/api.ErrState", "breviary/api.ErrNoEnt", "breviary/api.ErrExist", "breviary/api.ErrNotDir", "breviary/api.ErrIsDir", "breviary/api.ErrNotEmpty", "breviary/api.ErrInval", "breviary/api.ErrLong", "breviary/api.ErrLoop", "breviary/api.ErrMLink", "breviary/api.ErrFBig", "breviary/api.ErrNoSpc", "breviary/api.ErrMFile", "breviary/api.ErrBadF", "breviary/api.ErrRefused", "breviary/api.ErrWord", "breviary/api.ErrNumber"] (by kernel_rfl) (by kernel_rfl)
theorem geoBounds_row_tie : Rows.geoBoundsRow.laidByTextAt .later Tryd.pinned [.sentinel, .sentinel, .sentinel, .sentinel, .sentinel, .sentinel, .sentinel, .sentinel, .sentinel, .sentinel, .sentinel, .sentinel, .sentinel, .sentinel, .sentinel, .sentinel, .sentinel, .sentinel, .sentinel, .sentinel, .sentinel, .sentinel, .sentinel, .sentinel] true :=
  OpenClaim.laidByTextAt_later rfl rfl tie2 noOwnUnsafe
theorem geoSays_row_tie : Rows.geoSaysRow.laidByTextAt .later Tryd.pinned [.sentinel, .sentinel, .sentinel, .sentinel, .sentinel, .sentinel, .sentinel, .sentinel, .sentinel, .sentinel, .sentinel, .sentinel, .sentinel, .sentinel, .sentinel, .sentinel, .sentinel, .sentinel, .sentinel, .sentinel, .sentinel, .sentinel, .sentinel, .sentinel] true :=
  OpenClaim.laidByTextAt_later rfl rfl tie2 noOwnUnsafe
theorem recSays_row_tie : Rows.recSaysRow.laidByTextAt .later Tryd.pinned [.sentinel, .sentinel, .sentinel, .sentinel, .sentinel, .sentinel, .sentinel, .sentinel, .sentinel, .sentinel, .sentinel, .sentinel, .sentinel, .sentinel, .sentinel, .sentinel, .sentinel, .sentinel, .sentinel, .sentinel, .sentinel, .sentinel, .sentinel, .sentinel] true :=
  OpenClaim.laidByTextAt_later rfl rfl tie2 noOwnUnsafe
theorem recRanges_row_tie : Rows.recRangesRow.laidByTextAt .later Tryd.pinned [.sentinel, .sentinel, .sentinel, .sentinel, .sentinel, .sentinel, .sentinel, .sentinel, .sentinel, .sentinel, .sentinel, .sentinel, .sentinel, .sentinel, .sentinel, .sentinel, .sentinel, .sentinel, .sentinel, .sentinel, .sentinel, .sentinel, .sentinel, .sentinel] true :=
  OpenClaim.laidByTextAt_later rfl rfl tie2 noOwnUnsafe
theorem wireForms_row_tie : Rows.wireFormsRow.laidByTextAt .later Tryd.pinned [.sentinel, .sentinel, .sentinel, .sentinel, .sentinel, .sentinel, .sentinel, .sentinel, .sentinel, .sentinel, .sentinel, .sentinel, .sentinel, .sentinel, .sentinel, .sentinel, .sentinel, .sentinel, .sentinel, .sentinel, .sentinel, .sentinel, .sentinel, .sentinel] true :=
  OpenClaim.laidByTextAt_later rfl rfl tie2 noOwnUnsafe
theorem wireRanges_row_tie : Rows.wireRangesRow.laidByTextAt .later Tryd.pinned [.sentinel, .sentinel, .sentinel, .sentinel, .sentinel, .sentinel, .sentinel, .sentinel, .sentinel, .sentinel, .sentinel, .sentinel, .sentinel, .sentinel, .sentinel, .sentinel, .sentinel, .sentinel, .sentinel, .sentinel, .sentinel, .sentinel, .sentinel, .sentinel] true :=
  OpenClaim.laidByTextAt_later rfl rfl tie2 noOwnUnsafe
theorem wireRows_row_tie : Rows.wireRowsRow.laidByTextAt .later Tryd.pinned [.sentinel, .sentinel, .sentinel, .sentinel, .sentinel, .sentinel, .sentinel, .sentinel, .sentinel, .sentinel, .sentinel, .sentinel, .sentinel, .sentinel, .sentinel, .sentinel, .sentinel, .sentinel, .sentinel, .sentinel, .sentinel, .sentinel, .sentinel, .sentinel] true :=
  OpenClaim.laidByTextAt_later rfl rfl tie2 noOwnUnsafe
theorem wireLengths_row_tie : Rows.wireLengthsRow.laidByTextAt .later Tryd.pinned [.sentinel, .sentinel, .sentinel, .sentinel, .sentinel, .sentinel, .sentinel, .sentinel, .sentinel, .sentinel, .sentinel, .sentinel, .sentinel, .sentinel, .sentinel, .sentinel, .sentinel, .sentinel, .sentinel, .sentinel, .sentinel, .sentinel, .sentinel, .sentinel] true :=
  OpenClaim.laidByTextAt_later rfl rfl tie2 noOwnUnsafe
theorem tie3 : Tryd.prog.laidByTextLater [("breviary/api.ErrEnd", Rows.laid_breviary_api_ErrEnd), ("breviary/api.ErrShape", Rows.laid_breviary_api_ErrShape), ("breviary/api.ErrRange", Rows.laid_breviary_api_ErrRange)] [.sentinel, .sentinel, .sentinel] true :=
  Program.laidByTextLater.sub seatTie1 ["breviary/api.ErrEnd", "breviary/api.ErrShape", "breviary/api.ErrRange"] (by kernel_rfl) (by kernel_rfl)
theorem wireTwins_row_tie : Rows.wireTwinsRow.laidByTextAt .later Tryd.pinned [.sentinel, .sentinel, .sentinel] true :=
  OpenClaim.laidByTextAt_later rfl rfl tie3 noOwnUnsafe
theorem wirePuts_row_tie : Rows.wirePutsRow.laidByTextAt .later Tryd.pinned [.sentinel, .sentinel, .sentinel] true :=
  OpenClaim.laidByTextAt_later rfl rfl tie3 noOwnUnsafe
theorem tie4 : Tryd.prog.laidByTextLater [("breviary/api.ErrEnd", Rows.laid_breviary_api_ErrEnd), ("breviary/api.ErrShape", Rows.laid_breviary_api_ErrShape), ("breviary/api.ErrRange", Rows.laid_breviary_api_ErrRange), ("breviary/api.ErrLong", Rows.laid_breviary_api_ErrLong)] [.sentinel, .sentinel, .sentinel, .sentinel] true :=
  Program.laidByTextLater.sub seatTie1 ["breviary/api.ErrEnd", "breviary/api.ErrShape", "breviary/api.ErrRange", "breviary/api.ErrLong"] (by kernel_rfl) (by kernel_rfl)
theorem recOrders_row_tie : Rows.recOrdersRow.laidByTextAt .later Tryd.pinned [.sentinel, .sentinel, .sentinel, .sentinel] true :=
  OpenClaim.laidByTextAt_later rfl rfl tie4 noOwnUnsafe
theorem geoQuotasUpto_row_tie : Rows.geoQuotasUptoRow.laidByTextAt .later Tryd.pinned [.sentinel] true :=
  OpenClaim.laidByTextAt_later rfl rfl tie noOwnUnsafe
theorem geoBoundsUpto_row_tie : Rows.geoBoundsUptoRow.laidByTextAt .later Tryd.pinned [.sentinel, .sentinel, .sentinel, .sentinel, .sentinel, .sentinel, .sentinel, .sentinel, .sentinel, .sentinel, .sentinel, .sentinel, .sentinel, .sentinel, .sentinel, .sentinel, .sentinel, .sentinel, .sentinel, .sentinel, .sentinel, .sentinel, .sentinel, .sentinel] true :=
  OpenClaim.laidByTextAt_later rfl rfl tie2 noOwnUnsafe
theorem geoPairsUpto_row_tie : Rows.geoPairsUptoRow.laidByTextAt .later Tryd.pinned [.sentinel] true :=
  OpenClaim.laidByTextAt_later rfl rfl tie noOwnUnsafe
theorem geoSaysUpto_row_tie : Rows.geoSaysUptoRow.laidByTextAt .later Tryd.pinned [.sentinel, .sentinel, .sentinel, .sentinel, .sentinel, .sentinel, .sentinel, .sentinel, .sentinel, .sentinel, .sentinel, .sentinel, .sentinel, .sentinel, .sentinel, .sentinel, .sentinel, .sentinel, .sentinel, .sentinel, .sentinel, .sentinel, .sentinel, .sentinel] true :=
  OpenClaim.laidByTextAt_later rfl rfl tie2 noOwnUnsafe
theorem recSaysUpto_row_tie : Rows.recSaysUptoRow.laidByTextAt .later Tryd.pinned [.sentinel, .sentinel, .sentinel, .sentinel, .sentinel, .sentinel, .sentinel, .sentinel, .sentinel, .sentinel, .sentinel, .sentinel, .sentinel, .sentinel, .sentinel, .sentinel, .sentinel, .sentinel, .sentinel, .sentinel, .sentinel, .sentinel, .sentinel, .sentinel] true :=
  OpenClaim.laidByTextAt_later rfl rfl tie2 noOwnUnsafe
theorem recRangesUpto_row_tie : Rows.recRangesUptoRow.laidByTextAt .later Tryd.pinned [.sentinel, .sentinel, .sentinel, .sentinel, .sentinel, .sentinel, .sentinel, .sentinel, .sentinel, .sentinel, .sentinel, .sentinel, .sentinel, .sentinel, .sentinel, .sentinel, .sentinel, .sentinel, .sentinel, .sentinel, .sentinel, .sentinel, .sentinel, .sentinel] true :=
  OpenClaim.laidByTextAt_later rfl rfl tie2 noOwnUnsafe
theorem wireFormsUpto_row_tie : Rows.wireFormsUptoRow.laidByTextAt .later Tryd.pinned [.sentinel, .sentinel, .sentinel, .sentinel, .sentinel, .sentinel, .sentinel, .sentinel, .sentinel, .sentinel, .sentinel, .sentinel, .sentinel, .sentinel, .sentinel, .sentinel, .sentinel, .sentinel, .sentinel, .sentinel, .sentinel, .sentinel, .sentinel, .sentinel] true :=
  OpenClaim.laidByTextAt_later rfl rfl tie2 noOwnUnsafe
theorem wireTwinsUpto_row_tie : Rows.wireTwinsUptoRow.laidByTextAt .later Tryd.pinned [.sentinel, .sentinel, .sentinel] true :=
  OpenClaim.laidByTextAt_later rfl rfl tie3 noOwnUnsafe
theorem wirePutsUpto_row_tie : Rows.wirePutsUptoRow.laidByTextAt .later Tryd.pinned [.sentinel, .sentinel, .sentinel] true :=
  OpenClaim.laidByTextAt_later rfl rfl tie3 noOwnUnsafe
theorem wireRangesUpto_row_tie : Rows.wireRangesUptoRow.laidByTextAt .later Tryd.pinned [.sentinel, .sentinel, .sentinel, .sentinel, .sentinel, .sentinel, .sentinel, .sentinel, .sentinel, .sentinel, .sentinel, .sentinel, .sentinel, .sentinel, .sentinel, .sentinel, .sentinel, .sentinel, .sentinel, .sentinel, .sentinel, .sentinel, .sentinel, .sentinel] true :=
  OpenClaim.laidByTextAt_later rfl rfl tie2 noOwnUnsafe
theorem wireRowsUpto_row_tie : Rows.wireRowsUptoRow.laidByTextAt .later Tryd.pinned [.sentinel, .sentinel, .sentinel, .sentinel, .sentinel, .sentinel, .sentinel, .sentinel, .sentinel, .sentinel, .sentinel, .sentinel, .sentinel, .sentinel, .sentinel, .sentinel, .sentinel, .sentinel, .sentinel, .sentinel, .sentinel, .sentinel, .sentinel, .sentinel] true :=
  OpenClaim.laidByTextAt_later rfl rfl tie2 noOwnUnsafe
theorem wireLengthsUpto_row_tie : Rows.wireLengthsUptoRow.laidByTextAt .later Tryd.pinned [.sentinel, .sentinel, .sentinel, .sentinel, .sentinel, .sentinel, .sentinel, .sentinel, .sentinel, .sentinel, .sentinel, .sentinel, .sentinel, .sentinel, .sentinel, .sentinel, .sentinel, .sentinel, .sentinel, .sentinel, .sentinel, .sentinel, .sentinel, .sentinel] true :=
  OpenClaim.laidByTextAt_later rfl rfl tie2 noOwnUnsafe
theorem recOrdersUpto_row_tie : Rows.recOrdersUptoRow.laidByTextAt .later Tryd.pinned [.sentinel, .sentinel, .sentinel, .sentinel] true :=
  OpenClaim.laidByTextAt_later rfl rfl tie4 noOwnUnsafe
end Go.Proofs.YtdgbgdkfoeoppaaDoor
