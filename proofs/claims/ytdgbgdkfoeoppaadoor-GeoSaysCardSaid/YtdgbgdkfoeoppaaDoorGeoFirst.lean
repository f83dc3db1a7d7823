/- The chapter's example (4). -/
import Derived.Test.YtdgbgdkfoeoppaaDoorGeoWalk
namespace Go.Proofs.YtdgbgdkfoeoppaaDoor.GeoW
open Go Go.RowKit Go.Proofs.YtdgbgdkfoeoppaaDoor.Mem
set_option linter.unusedVariables false
set_option maxRecDepth 100000

theorem first_w (w : World) : Calls Tryd.prog 16 #[] w fun e w' => e = .returned (.bool true) ∧ Below w.heap.size w w' := by
  go_enter Tryd.func16, Tryd.ntmps16
  go_wp2_with fail
  refine (of_good 400 _ (by omega) (by omega)).mono ?_
  rintro e w1 ⟨rfl, hb1⟩
  rw [show half 400 = 100 by decide]
  go_wp2_with fail
  go_ret
  exact ⟨rfl, hb1.alloc hb1.size _⟩
end Go.Proofs.YtdgbgdkfoeoppaaDoor.GeoW
