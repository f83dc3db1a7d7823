/-
  DERIVED. GIVEN WITH THE SEED: THE PROGRAM's TIES (one call each: nine closed facts by the kernel) AND EACH ROW's TIE, after the 31st guide's Derived/Test/Toyas{Tie, Card}.lean. No idea stands in it: it is a product of the set-up. Laid BY PROGRAM, IN A SANDBOX (cutbox-door.mjs). By AI agents, Wed Nov 11 2026. No macro, syntax, notation, axiom, sorry.
-/
import Derived.Test.YtcaocebgkahbmaaDoorRows
import Derived.LaidByTextLater
import Derived.SevenTiedAt
import Derived.LaidSub
import Derived.LaidOnce
namespace Go.Proofs.YtcaocebgkahbmaaDoor
open Go
set_option maxRecDepth 100000
theorem seatTie1 : Tryd.prog.laidByTextLater [("breviary/api.ErrShape", Rows.laid_breviary_api_ErrShape), ("breviary/api.ErrRange", Rows.laid_breviary_api_ErrRange), ("breviary/api.ErrMany", Rows.laid_breviary_api_ErrMany), ("breviary/api.ErrFull", Rows.laid_breviary_api_ErrFull), ("breviary/api.ErrCrash", Rows.laid_breviary_api_ErrCrash), ("breviary/api.ErrIO", Rows.laid_breviary_api_ErrIO), ("breviary/api.ErrNoEnt", Rows.laid_breviary_api_ErrNoEnt)] [.sentinel, .sentinel, .sentinel, .sentinel, .sentinel, .sentinel, .sentinel] true :=
  Program.laidByTextLater_by_one 142 8 2 (by kernel_rfl) (by kernel_rfl) (by kernel_rfl) (by kernel_rfl) (by kernel_rfl) (by kernel_rfl) (fun _ _ => by kernel_rfl)
theorem noOwnUnsafe : Tryd.pinned.checked.prog.headLifts.contains "ownunsafe" = false := by kernel_rfl
theorem tie : Tryd.prog.laidByTextLater [("breviary/api.ErrShape", Rows.laid_breviary_api_ErrShape), ("breviary/api.ErrRange", Rows.laid_breviary_api_ErrRange), ("breviary/api.ErrMany", Rows.laid_breviary_api_ErrMany), ("breviary/api.ErrFull", Rows.laid_breviary_api_ErrFull), ("breviary/api.ErrCrash", Rows.laid_breviary_api_ErrCrash), ("breviary/api.ErrIO", Rows.laid_breviary_api_ErrIO), ("breviary/api.ErrNoEnt", Rows.laid_breviary_api_ErrNoEnt)] [.sentinel, .sentinel, .sentinel, .sentinel, .sentinel, .sentinel, .sentinel] true :=
  Program.laidByTextLater.sub seatTie1 ["breviary/api.ErrShape", "breviary/api.ErrRange", "breviary/api.ErrMany", "breviary/api.ErrFull", "breviary/api.ErrCrash", "breviary/api.ErrIO", "breviary/api.ErrNoEnt"] (by kernel_rfl) (by kernel_rfl)
theorem keepOrder_row_tie : Rows.keepOrderRow.laidByTextAt .later Tryd.pinned [.sentinel, .sentinel, .sentinel, .sentinel, .sentinel, .sentinel, .sentinel] true :=
  OpenClaim.laidByTextAt_later rfl rfl tie noOwnUnsafe
theorem keepOrderUpto_row_tie : Rows.keepOrderUptoRow.laidByTextAt .later Tryd.pinned [.sentinel, .sentinel, .sentinel, .sentinel, .sentinel, .sentinel, .sentinel] true :=
  OpenClaim.laidByTextAt_later rfl rfl tie noOwnUnsafe
end Go.Proofs.YtcaocebgkahbmaaDoor
