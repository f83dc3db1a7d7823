/- More walks of package geo: a block's part. -/
import Derived.Test.YtdgbgdkfoeoppaaDoorGeoWalk
namespace Go.Proofs.YtdgbgdkfoeoppaaDoor.GeoW
open Go Go.RowKit Go.Proofs.YtdgbgdkfoeoppaaDoor.Mem
set_option linter.unusedVariables false
set_option maxRecDepth 100000

theorem mirrored_neg (b h i : Int) (w : World) (hi : i < 0) :
    Calls Tryd.prog 22 #[G b h, .int .i64 i] w fun e w' => e = .returned (.bool false) ∧ Below w.heap.size w w' := by
  have d1 : decide (0 ≤ i) = false := by rw [decide_eq_false_iff_not]; omega
  clear hi
  go_enter Tryd.func22, Tryd.ntmps22
  go_wp2_with fail
  go_ret
  exact ⟨rfl, (Below.refl _ _).alloc (Nat.le_refl _) _⟩
theorem mirrored_w (b h i : Nat) (w : World) (hi : i ≤ 9223372036854775807) :
    Calls Tryd.prog 22 #[G b h, .int .i64 i] w fun e w' => e = .returned (.bool (decide (i / 2 < h ∧ i < b))) ∧ Below w.heap.size w w' := by
  by_cases h1 : i / 2 < h
  · have d1 : decide ((i : Int) / 2 < (h : Int)) = true := by rw [decide_eq_true_eq]; omega
    have d1' : (i : Int) / 2 < (h : Int) := by omega
    have e1 : (i / 2 < h ∧ i < b) = (i < b) := by simp [h1]
    simp only [e1]
    clear h1 e1
    go_enter Tryd.func22, Tryd.ntmps22
    go_wp2_with fail
    go_ret
    exact ⟨ret_bool (by simp), (Below.refl _ _).alloc (Nat.le_refl _) _⟩
  · have d1 : decide ((i : Int) / 2 < (h : Int)) = false := by rw [decide_eq_false_iff_not]; omega
    have e1 : (i / 2 < h ∧ i < b) = False := by simp [h1]
    simp only [e1]
    clear h1 e1
    go_enter Tryd.func22, Tryd.ntmps22
    go_wp2_with fail
    go_ret
    exact ⟨ret_bool (by simp), (Below.refl _ _).alloc (Nat.le_refl _) _⟩
theorem data_neg (b h i : Int) (w : World) (hi : i < 0) :
    Calls Tryd.prog 23 #[G b h, .int .i64 i] w fun e w' => e = .returned (.bool false) ∧ Below w.heap.size w w' := by
  have d1 : decide (0 ≤ i) = false := by rw [decide_eq_false_iff_not]; omega
  clear hi
  go_enter Tryd.func23, Tryd.ntmps23
  go_wp2_with fail
  go_ret
  exact ⟨rfl, (Below.refl _ _).alloc (Nat.le_refl _) _⟩
theorem data_w (b h i : Nat) (w : World) (hi : i ≤ 9223372036854775807) :
    Calls Tryd.prog 23 #[G b h, .int .i64 i] w fun e w' => e = .returned (.bool (decide (i < b ∧ h ≤ i / 2))) ∧ Below w.heap.size w w' := by
  by_cases h1 : i < b
  · have d1 : decide (i < b) = true := by rw [decide_eq_true_eq]; omega
    have d2 : (decide ((h : Int) ≤ (i : Int) / 2)) = (decide (h ≤ i / 2)) := by apply decide_eq_decide.2; omega
    have e1 : (i < b ∧ h ≤ i / 2) = (h ≤ i / 2) := by simp [h1]
    simp only [e1]
    have h1 : (i : Int) < (b : Int) := by omega
    clear e1
    go_enter Tryd.func23, Tryd.ntmps23
    go_wp2_with fail
    go_ret
    exact ⟨ret_bool (by simp), (Below.refl _ _).alloc (Nat.le_refl _) _⟩
  · have d1 : decide (i < b) = false := by rw [decide_eq_false_iff_not]; omega
    have e1 : (i < b ∧ h ≤ i / 2) = False := by simp [h1]
    simp only [e1]
    clear h1 e1
    go_enter Tryd.func23, Tryd.ntmps23
    go_wp2_with fail
    go_ret
    exact ⟨ret_bool (by simp), (Below.refl _ _).alloc (Nat.le_refl _) _⟩
end Go.Proofs.YtdgbgdkfoeoppaaDoor.GeoW
