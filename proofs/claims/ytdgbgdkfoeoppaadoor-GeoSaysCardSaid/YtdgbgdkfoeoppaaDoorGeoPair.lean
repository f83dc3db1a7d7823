/- More walks of package geo: a block's partner. -/
import Derived.Test.YtdgbgdkfoeoppaaDoorGeoMore
namespace Go.Proofs.YtdgbgdkfoeoppaaDoor.GeoW
open Go Go.RowKit Go.Proofs.YtdgbgdkfoeoppaaDoor.Mem
set_option linter.unusedVariables false
set_option maxRecDepth 100000

/-- a block's partner; none: (0, false) -/
def pt (h i : Nat) : Nat × Bool := if i < h then (i + h, true) else if i < 2 * h then (i - h, true) else (0, false)
abbrev pv (x : Nat × Bool) : Value := .tuple #[.int .i64 (x.1 : Int), .bool x.2]

set_option maxHeartbeats 800000 in
theorem partner_w (b h i : Nat) (w : World) (hi : i ≤ 9223372036854775807) (hb : b ≤ 6000) (hh : 2 * h ≤ b) :
    Calls Tryd.prog 24 #[G b h, .int .i64 i] w fun e w' => e = .returned (pv (pt h i)) ∧ Below w.heap.size w w' := by
  have cm := fun w => mirrored_w b h i w hi
  rcases Nat.lt_or_ge i (2 * h) with h1 | h1
  · rw [show decide (i / 2 < h ∧ i < b) = true by simp; omega] at cm
    rcases Nat.lt_or_ge i h with h2 | h2
    case' inl =>
      have HP := hid (show pt h i = (i + h, true) by simp [pt, h2])
      have d1 : decide ((i : Int) < (h : Int)) = true := by rw [decide_eq_true_eq]; omega
      have d2 : (i : Int) < (h : Int) := by omega
    case' inr =>
      have HP := hid (show pt h i = (i - h, true) by simp [pt, h1]; omega)
      have d1 : decide ((i : Int) < (h : Int)) = false := by rw [decide_eq_false_iff_not]; omega
      have d2 : (h : Int) ≤ (i : Int) := by omega
    all_goals
      have h6 : i ≤ 6000 := by omega
      clear h1 h2 hi
      go_enter Tryd.func24, Tryd.ntmps24
      go_wp2_with fail
      refine (cm _).mono ?_
      rintro e w1 ⟨rfl, hb1⟩
      obtain ⟨g0, g1⟩ := new2 w (.int .i64 b) (.int .i64 h) 24
      replace g0 := kept hb1 g0
      replace g1 := kept hb1 g1
      have HB := hid (below_put (Below.refl w.heap.size w) (Nat.le_refl _) _ hb1)
      clear hb1 cm
      go_wp2_with fail
      refine bodyPost_ret (v := pv (pt h i)) (by rw [HP.out]; simp [results, Tryd.results24, go_sem]; try omega) rfl ⟨rfl, HB.out⟩
  · rw [show decide (i / 2 < h ∧ i < b) = false by rw [decide_eq_false_iff_not]; omega] at cm
    have HP := hid (show pt h i = (0, false) by unfold pt; rw [if_neg (by omega), if_neg (by omega)])
    clear h1 hi
    go_enter Tryd.func24, Tryd.ntmps24
    go_wp2_with fail
    refine (cm _).mono ?_
    rintro e w1 ⟨rfl, hb1⟩
    have HB := hid (below_put (Below.refl w.heap.size w) (Nat.le_refl _) _ hb1)
    clear hb1 cm
    go_wp2_with fail
    refine bodyPost_ret (v := pv (pt h i)) (by rw [HP.out]; simp [results, Tryd.results24, go_sem]) rfl ⟨rfl, HB.out⟩
theorem partner_neg (b h i : Int) (w : World) (hi : i < 0) :
    Calls Tryd.prog 24 #[G b h, .int .i64 i] w fun e w' => e = .returned (pv (0, false)) ∧ Below w.heap.size w w' := by
  have cm := fun w => mirrored_neg b h i w hi
  go_enter Tryd.func24, Tryd.ntmps24
  go_wp2_with fail
  refine (cm _).mono ?_
  rintro e w1 ⟨rfl, hb1⟩
  have HB := hid (below_put (Below.refl w.heap.size w) (Nat.le_refl _) _ hb1)
  clear hb1 cm
  go_wp2_with fail
  refine bodyPost_ret (v := pv (0, false)) (by simp [results, Tryd.results24, go_sem]) rfl ⟨rfl, HB.out⟩
end Go.Proofs.YtdgbgdkfoeoppaaDoor.GeoW
