/- Mirrored and Data at any integer. -/
import Derived.Test.YtdgbgdkfoeoppaaDoorPaired
namespace Go.Proofs.YtdgbgdkfoeoppaaDoor.GeoW
open Go Go.RowKit Go.Proofs.YtdgbgdkfoeoppaaDoor.Mem
set_option linter.unusedVariables false
set_option maxRecDepth 100000

theorem mirrored_i (b h : Nat) (x : Int) (w : World) (hx : x ≤ 9223372036854775807) (hh : 2 * h ≤ b) :
    Calls Tryd.prog 22 #[G b h, .int .i64 x] w fun e w' => e = .returned (.bool (pti h x).2) ∧ Below w.heap.size w w' := by
  by_cases h0 : x < 0
  · rw [show (pti h x).2 = false by simp [pti, h0]]
    exact mirrored_neg b h x w h0
  · obtain ⟨i, rfl⟩ := Int.eq_ofNat_of_zero_le (a := x) (by omega)
    rw [show (pti h (i : Int)).2 = decide (i / 2 < h ∧ i < b) by
      unfold pti pt
      rw [if_neg h0, Int.toNat_natCast]
      rcases Nat.lt_or_ge i h with h1 | h1
      · rw [if_pos h1]; symm; rw [decide_eq_true_eq]; omega
      · rw [if_neg (by omega)]
        rcases Nat.lt_or_ge i (2 * h) with h2 | h2
        · rw [if_pos h2]; symm; rw [decide_eq_true_eq]; omega
        · rw [if_neg (by omega)]; symm; rw [decide_eq_false_iff_not]; omega]
    exact mirrored_w b h i w (by omega)
theorem data_i (b h : Nat) (x : Int) (w : World) (hx : x ≤ 9223372036854775807) :
    Calls Tryd.prog 23 #[G b h, .int .i64 x] w fun e w' => e = .returned (.bool (decide (2 * (h : Int) ≤ x) && decide (x < (b : Int)))) ∧ Below w.heap.size w w' := by
  by_cases h0 : x < 0
  · rw [show decide (2 * (h : Int) ≤ x) = false by rw [decide_eq_false_iff_not]; omega, Bool.false_and]
    exact data_neg b h x w h0
  · obtain ⟨i, rfl⟩ := Int.eq_ofNat_of_zero_le (a := x) (by omega)
    rw [show (decide (2 * (h : Int) ≤ (i : Int)) && decide ((i : Int) < (b : Int))) = decide (i < b ∧ h ≤ i / 2) by
      rw [← Bool.decide_and]; apply decide_eq_decide.2; omega]
    exact data_w b h i w (by omega)
end Go.Proofs.YtdgbgdkfoeoppaaDoor.GeoW
