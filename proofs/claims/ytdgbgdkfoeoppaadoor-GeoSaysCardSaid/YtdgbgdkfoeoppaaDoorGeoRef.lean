/- The reference's words on geometry. -/
import Derived.Test.YtdgbgdkfoeoppaaDoorGeoPair
namespace Go.Proofs.YtdgbgdkfoeoppaaDoor.GeoW
open Go Go.RowKit Go.Proofs.YtdgbgdkfoeoppaaDoor.Mem
set_option linter.unusedVariables false
set_option maxRecDepth 100000

theorem rgeo_bad (b : Int) (w : World) (h : b < 300 ∨ 6000 < b) :
    Calls Tryd.prog 26 #[.int .i64 b] w fun e w' => e = .returned (.tuple #[G 0 0, .int .i64 103]) ∧ Below w.heap.size w w' := by
  rcases (show b < 300 ∨ (300 ≤ b ∧ 6000 < b) by omega) with h1 | ⟨h0, h1⟩
  case' inl =>
    have d1 : decide (b < 300) = true := by rw [decide_eq_true_eq]; omega
  case' inr =>
    have d1 : decide (b < 300) = false := by rw [decide_eq_false_iff_not]; omega
    have d2 : decide ((6000 : Int) < b) = true := by rw [decide_eq_true_eq]; omega
  all_goals
    clear h
    go_enter Tryd.func26, Tryd.ntmps26
    go_wp2_with fail
    refine bodyPost_ret (v := .tuple #[G 0 0, .int .i64 103]) (by simp [results, Tryd.results26, go_sem]) rfl ⟨rfl, ?_⟩
    exact (Below.refl _ _).alloc (Nat.le_refl _) _
theorem rgeo_good (b : Nat) (w : World) (h1 : 300 ≤ b) (h2 : b ≤ 6000) :
    Calls Tryd.prog 26 #[.int .i64 b] w fun e w' => e = .returned (.tuple #[G b (half b), .int .i64 0]) ∧ Below w.heap.size w w' := by
  have HH := hid (show half b = min (b / 4) 512 from rfl)
  have d1 : decide ((b : Int) < 300) = false := by rw [decide_eq_false_iff_not]; omega
  have d2 : decide ((6000 : Int) < (b : Int)) = false := by rw [decide_eq_false_iff_not]; omega
  rcases Nat.lt_or_ge (b / 4) 512 with h | h
  · have d3 : (b : Int) / 4 < 512 := by omega
    rw [Nat.min_eq_left (by omega)] at HH
    go_enter Tryd.func26, Tryd.ntmps26
    go_wp2
    refine bodyPost_ret (v := .tuple #[G b (((b / 4 : Nat)) : Int), .int .i64 0]) (by simp [results, Tryd.results26, go_sem]) rfl ⟨by rw [HH.out], (Below.refl _ _).alloc (Nat.le_refl _) _⟩
  · have d3 : (512 : Int) ≤ (b : Int) / 4 := by omega
    rw [Nat.min_eq_right (by omega)] at HH
    go_enter Tryd.func26, Tryd.ntmps26
    go_wp2
    all_goals refine bodyPost_ret (v := .tuple #[G b 512, .int .i64 0]) (by simp [results, Tryd.results26, go_sem]; try omega) rfl ⟨by rw [HH.out]; rfl, (Below.refl _ _).alloc (Nat.le_refl _) _⟩

set_option maxHeartbeats 800000 in
theorem rpartner_w (b : Int) (h i : Nat) (w : World) (hi : i ≤ 9223372036854775807) (hh : h ≤ 512) :
    Calls Tryd.prog 27 #[G b h, .int .i64 i] w fun e w' => e = .returned (pv (pt h i)) ∧ Below w.heap.size w w' := by
  have v1 : IntKind.i64.wrap (2 * (h : Int)) = 2 * (h : Int) := IntWalk.i64_in _ (by omega)
  rcases Nat.lt_or_ge i h with h2 | h2
  case' inl =>
    have HP := hid (show pt h i = (i + h, true) by simp [pt, h2])
    have d1 : decide (i < h) = true := by rw [decide_eq_true_eq]; omega
    have h6 : i ≤ 6000 := by omega
  case' inr =>
    have d1 : decide (i < h) = false := by rw [decide_eq_false_iff_not]; omega
    have d0 : decide (h ≤ i) = true := by rw [decide_eq_true_eq]; omega
    rcases Nat.lt_or_ge i (2 * h) with h1 | h1
  case' inr.inl =>
    have HP := hid (show pt h i = (i - h, true) by unfold pt; rw [if_neg (by omega), if_pos h1])
    have d3 : decide ((i : Int) < 2 * (h : Int)) = true := by rw [decide_eq_true_eq]; omega
    have h6 : i ≤ 6000 := by omega
    have h7 : (h : Int) ≤ (i : Int) := by omega
    have HE := hid (show (i : Int) - (h : Int) = ((i - h : Nat) : Int) by omega)
  case' inr.inr =>
    have HP := hid (show pt h i = (0, false) by unfold pt; rw [if_neg (by omega), if_neg (by omega)])
    have d3 : decide ((i : Int) < 2 * (h : Int)) = false := by rw [decide_eq_false_iff_not]; omega
    have h7 : (h : Int) ≤ (i : Int) := by omega
  all_goals
    clear h2 hi
    try clear h1
    go_enter Tryd.func27, Tryd.ntmps27
    go_wp2_with fail
    refine bodyPost_ret (v := pv (pt h i)) (by rw [HP.out]; simp [results, Tryd.results27, go_sem]; try omega) rfl ⟨rfl, (Below.refl _ _).alloc (Nat.le_refl _) _⟩
theorem rpartner_neg (b h i : Int) (w : World) (hi : i < 0) (h0 : 0 ≤ h) :
    Calls Tryd.prog 27 #[G b h, .int .i64 i] w fun e w' => e = .returned (pv (0, false)) ∧ Below w.heap.size w w' := by
  have d1 : decide (0 ≤ i) = false := by rw [decide_eq_false_iff_not]; omega
  have d2 : decide (h ≤ i) = false := by rw [decide_eq_false_iff_not]; omega
  clear hi h0
  go_enter Tryd.func27, Tryd.ntmps27
  go_wp2_with fail
  refine bodyPost_ret (v := pv (0, false)) (by simp [results, Tryd.results27, go_sem]) rfl ⟨rfl, (Below.refl _ _).alloc (Nat.le_refl _) _⟩
end Go.Proofs.YtdgbgdkfoeoppaaDoor.GeoW
