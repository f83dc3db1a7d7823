/- The reference's quota. -/
import Derived.Test.YtdgbgdkfoeoppaaDoorGeoRef
namespace Go.Proofs.YtdgbgdkfoeoppaaDoor.GeoW
open Go Go.RowKit Go.Proofs.YtdgbgdkfoeoppaaDoor.Mem
set_option linter.unusedVariables false
set_option maxRecDepth 100000

set_option maxHeartbeats 800000 in
theorem rquota_w (b h : Nat) (w : World) (hb : b ≤ 6000) (hh : 2 * h ≤ b) :
    Calls Tryd.prog 29 #[G b h] w fun e w' => e = .returned (.int .i64 ((quota b h : Nat) : Int)) ∧ Below w.heap.size w w' := by
  obtain ⟨d, rfl⟩ : ∃ d, b = d + 2 * h := ⟨b - 2 * h, by omega⟩
  have HQ := hid (show quota (d + 2 * h) h = min (d / 2 - 8) (h - 60) by unfold quota; rw [Nat.add_sub_cancel])
  obtain ⟨x, hx⟩ : ∃ x : Int, x = ((d + 2 * h : Nat) : Int) := ⟨_, rfl⟩
  show Calls Tryd.prog 29 #[.agg #[.int .i64 ((d + 2 * h : Nat) : Int), .int .i64 h]] w _
  rw [← hx]
  have v0 : x - 2 * (h : Int) = (d : Int) := by omega
  have hx1 : x ≤ 6000 := by omega
  have hx0 : 0 ≤ x := by omega
  clear hx
  go_enter Tryd.func29, Tryd.ntmps29
  go_wp2
  all_goals
    go_ret
    refine ⟨ret_int ?_, (Below.refl _ _).alloc (Nat.le_refl _) _⟩
    rw [HQ.out]
    omega
end Go.Proofs.YtdgbgdkfoeoppaaDoor.GeoW
