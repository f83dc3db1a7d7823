/- The walk of GeoBounds where the blocks are enough. -/
import Derived.Test.YtdgbgdkfoeoppaaDoorGeoFirst
import Derived.Test.YtdgbgdkfoeoppaaDoorGeoMore
import Derived.Test.YtdgbgdkfoeoppaaDoorSeeWalk
import Derived.Test.YtdgbgdkfoeoppaaDoorNumWalk
import Derived.Deep.RegionHeld3
namespace Go.Proofs.YtdgbgdkfoeoppaaDoor.geoBounds
open Go Go.RowKit Go.Proofs.YtdgbgdkfoeoppaaDoor.Mem Go.Proofs.YtdgbgdkfoeoppaaDoor.GeoW
set_option linter.unusedVariables false
set_option maxRecDepth 100000

theorem quota_15 {b : Nat} (h : 300 ≤ b) (h2 : b ≤ 6000) : 15 ≤ quota b (half b) ∧ quota b (half b) ≤ 6000 := by unfold quota half; omega

set_option maxHeartbeats 6400000 in
theorem good (b : Nat) (i : Int) (w : World) (b1 : 300 ≤ b) (b2 : b ≤ 6000) (i0 : -9223372036854775808 ≤ i) (i1 : i ≤ 9223372036854775807) :
    Calls Tryd.prog 4 #[.int .i64 b, .int .i64 i] w fun e w' => e = .returned (.bool true) ∧ Below w.heap.size w w' := by
  have hsm := Int.emod_nonneg i (b := (b : Int)) (by omega)
  have hsl := Int.emod_lt_of_pos i (b := (b : Int)) (by omega)
  obtain ⟨j, hj⟩ := Int.eq_ofNat_of_zero_le hsm
  have HJ := hid hj
  have hjb : j < b := by omega
  clear hsm hsl hj
  have I0 := hid i0
  have I1 := hid i1
  clear i0 i1
  have d1 : decide ((b : Int) < 300) = false := by rw [decide_eq_false_iff_not]; omega
  have d2 : decide ((6000 : Int) < (b : Int)) = false := by rw [decide_eq_false_iff_not]; omega
  go_enter Tryd.func4, Tryd.ntmps4
  go_wp2_with fail
  refine (first_w _).mono ?_
  rintro e w1 ⟨rfl, hb1⟩
  have z1 := hb1.size
  go_wp2_with fail
  refine (of_good b _ b1 b2).mono ?_
  rintro e w2 ⟨rfl, hb2⟩
  have z2 := hb2.size
  go_wp2_with fail
  refine (NumW.number_w i b _ (by omega) (by omega) I0.out I1.out).mono ?_
  rintro e w3 ⟨rfl, hw3⟩
  rw [HJ.out]
  obtain ⟨g0, g1⟩ := new2 w2 (.int .i64 b) (.int .i64 (half b)) 24
  have c : Below w1.heap.size w1 w3 := by rw [← hw3]; exact hb2.alloc z2 _
  rw [hw3] at g0 g1
  clear hw3 hb2 z2 I0 I1 HJ
  obtain ⟨q1, q2⟩ := quota_15 b1 b2
  have cq : ∀ w, Calls Tryd.prog 18 #[G b (half b)] w fun e w' => e = .returned (.int .i64 ((quota b (half b) : Nat) : Int)) ∧ Below w.heap.size w w' := fun w => quota_w b (half b) w b2 (half_le b)
  have cd : ∀ w, Calls Tryd.prog 19 #[G b (half b)] w fun e w' => e = .returned (.int .i64 ((b - 2 * half b : Nat) : Int)) ∧ Below w.heap.size w w' := fun w => datas_w b (half b) w b2 (half_le b)
  have hl := half_le b
  have hh := half_512 b
  generalize quota b (half b) = q at *
  generalize half b = H at *
  have v1 : IntKind.i64.wrap (2 * (H : Int)) = 2 * (H : Int) := IntWalk.i64_in _ (by omega)
  have v2 : IntKind.i64.wrap (2 * (H : Int) + ((b - 2 * H : Nat) : Int)) = (b : Int) := by
    rw [IntWalk.i64_in _ (by omega)]; omega
  have hd : b - 2 * H ≤ 6000 := by omega
  generalize b - 2 * H = D at *
  have cm := fun w => mirrored_w b H j w (by omega)
  have ct := fun w => data_w b H j w (by omega)
  have cn := fun w => mirrored_neg b H (-1) w (by omega)
  have co := fun w => data_w b H b w (by omega)
  rw [show decide (b < b ∧ H ≤ b / 2) = false by simp] at co
  have e2 : decide ((15 : Int) ≤ (q : Int)) = true := by rw [decide_eq_true_eq]; omega
  generalize w2.heap.size = g at *
  rcases Nat.lt_or_ge (j / 2) H with hj | hj
  case' inl =>
    rw [show decide (j / 2 < H ∧ j < b) = true by simp; omega] at cm
    rw [show decide (j < b ∧ H ≤ j / 2) = false by simp; omega] at ct
    have e3 : decide ((j : Int) < 2 * (H : Int)) = true := by rw [decide_eq_true_eq]; omega
  case' inr =>
    rw [show decide (j / 2 < H ∧ j < b) = false by simp; omega] at cm
    rw [show decide (j < b ∧ H ≤ j / 2) = true by simp; omega] at ct
    have e3 : decide ((j : Int) < 2 * (H : Int)) = false := by rw [decide_eq_false_iff_not]; omega
  all_goals
    clear hj hjb b1 q1
    go_wp2_with fail
    go_region_held3 (fun w' => w'.cell? ⟨g, 0, none⟩ = some (.int .i64 (b : Int)) ∧ w'.cell? ⟨g, 1, none⟩ = some (.int .i64 (H : Int))) (first | exact ⟨g0, g1⟩ | go_keep)
      (((first | with_reducible refine (cd _).mono ?_ | with_reducible refine (cq _).mono ?_ | with_reducible refine (cm _).mono ?_ | with_reducible refine (cn _).mono ?_ | with_reducible refine (ct _).mono ?_ | with_reducible refine (co _).mono ?_); rintro e w' ⟨rfl, hb'⟩; replace g0 := kept hb' g0; replace g1 := kept hb' g1; replace c : Below w1.heap.size w1 w' := (by first | exact c.trans (hb'.mono c.size) | exact c.drew.trans (hb'.mono c.size)); clear hb'))
  all_goals
    clear cq cd cm ct cn co v1 v2 e2 e3 g0 g1
    go_wp2_with fail
    go_ret
    exact ⟨rfl, hb1.trans (c.mono z1)⟩
end Go.Proofs.YtdgbgdkfoeoppaaDoor.geoBounds
