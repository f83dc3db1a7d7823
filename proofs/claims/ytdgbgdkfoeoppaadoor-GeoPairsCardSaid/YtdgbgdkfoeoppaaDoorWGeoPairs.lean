/- The walk of GeoPairs. -/
import Derived.Test.YtdgbgdkfoeoppaaDoorGeoFirst
import Derived.Test.YtdgbgdkfoeoppaaDoorPaired
namespace Go.Proofs.YtdgbgdkfoeoppaaDoor.geoPairs
open Go Go.RowKit Go.Proofs.YtdgbgdkfoeoppaaDoor.Mem Go.Proofs.YtdgbgdkfoeoppaaDoor.GeoW
set_option linter.unusedVariables false
set_option maxRecDepth 100000

set_option maxHeartbeats 1600000 in
theorem alone (b : Nat) (i : Int) (w : World) (b1 : 300 ≤ b) (b2 : b ≤ 6000) (i1 : i ≤ 9223372036854775807) (hi : i < 0 ∨ 2 * (half b : Int) ≤ i) :
    Calls Tryd.prog 5 #[.int .i64 b, .int .i64 i] w fun e w' => e = .returned (.bool true) ∧ Below w.heap.size w w' := by
  have hl := half_le b
  have hg := fun w => of_good b w b1 b2
  generalize half b = H at *
  have cP := fun w => partner_i b H i w i1 b2 hl
  rw [show pti H i = (0, false) by
    unfold pti
    rcases hi with h | h
    · rw [if_pos h]
    · rw [if_neg (by omega)]; unfold pt; rw [if_neg (by omega), if_neg (by omega)]] at cP
  rcases hi with h | h
  case' inl =>
    have cD := fun w => data_neg b H i w h
    have cM := fun w => mirrored_neg b H i w h
    have d1 : decide (0 ≤ i) = false := by rw [decide_eq_false_iff_not]; omega
  case' inr =>
    obtain ⟨j, rfl⟩ := Int.eq_ofNat_of_zero_le (a := i) (by omega)
    have cD := fun w => data_w b H j w (by omega)
    have cM := fun w => mirrored_w b H j w (by omega)
    rw [show decide (j / 2 < H ∧ j < b) = false by rw [decide_eq_false_iff_not]; omega] at cM
    rw [show decide (j < b ∧ H ≤ j / 2) = decide (j < b) by apply decide_eq_decide.2; omega] at cD
    clear i1
  all_goals
    clear h hl
    go_enter Tryd.func5, Tryd.ntmps5
    go_wp2_with fail
    refine (first_w _).mono ?_
    rintro e w1 ⟨rfl, hb1⟩
    have z1 := hb1.size
    go_wp2_with fail
    refine (hg _).mono ?_
    rintro e w2 ⟨rfl, hb2⟩
    have z2 := hb2.size
    obtain ⟨g0, g1⟩ := new2 w2 (.int .i64 b) (.int .i64 H) 24
    go_wp2_with fail
    refine (cP _).mono ?_
    rintro e w3 ⟨rfl, hb3⟩
    replace g0 := kept hb3 g0
    replace g1 := kept hb3 g1
    have c := below_put hb2 z2 _ hb3
    clear hb2 hb3
    have z3 := c.size
    go_wp2_with fail
    refine (cD _).mono ?_
    rintro e w4 ⟨rfl, hb4⟩
    replace g0 := kept hb4 g0
    replace g1 := kept hb4 g1
    replace c := c.trans (hb4.mono z3)
    clear hb4 z3
    have z3 := c.size
    go_wp2_with fail
    refine (cM _).mono ?_
    rintro e w5 ⟨rfl, hb5⟩
    replace c := c.trans (hb5.mono z3)
    clear hb5 g0 g1 cP cD cM hg
    go_wp2_with fail
    go_ret
    exact ⟨ret_bool (by simp), hb1.trans (c.mono z1)⟩

set_option maxHeartbeats 3200000 in
theorem both (b i p : Nat) (w : World) (b1 : 300 ≤ b) (b2 : b ≤ 6000) (hi : i < 2 * half b) (hp : pti (half b) (i : Int) = (p, true)) (hq : pti (half b) (p : Int) = (i, true))
    (hne : p ≠ i) (hlt : p < half b ↔ ¬ i < half b) :
    Calls Tryd.prog 5 #[.int .i64 b, .int .i64 i] w fun e w' => e = .returned (.bool true) ∧ Below w.heap.size w w' := by
  have hl := half_le b
  have hg := fun w => of_good b w b1 b2
  generalize half b = H at *
  have i1 : (i : Int) ≤ 9223372036854775807 := by omega
  have p2 : p ≤ 6000 := by
    have : p < 2 * H := by
      unfold pti at hp
      rw [if_neg (by omega), Int.toNat_natCast] at hp
      unfold pt at hp
      rw [if_pos hi] at hp
      split at hp
      · simp at hp; omega
      · simp at hp; omega
    omega
  have cP := fun w => partner_i b H i w i1 b2 hl
  have cQ := fun w => partner_i b H p w (by omega) b2 hl
  rw [hp] at cP
  rw [hq] at cQ
  have cD := fun w => data_w b H i w (by omega)
  rw [show decide (i < b ∧ H ≤ i / 2) = false by rw [decide_eq_false_iff_not]; omega] at cD
  have c1 := fun a w => paired_w b H a 3 3 [(i : Int), 7, (p : Int)] w (by simp; omega) b2 hl
  have c2 := fun a w => paired_w b H a 2 2 [(i : Int), (i : Int)] w (by simp; omega) b2 hl
  rw [show [(i : Int), 7, (p : Int)].any (hit H [(i : Int), 7, (p : Int)]) = true from List.any_eq_true.2 ⟨i, by simp, by simp [hit, hp]⟩] at c1
  rw [show [(i : Int), (i : Int)].any (hit H [(i : Int), (i : Int)]) = false by simp [hit, hp]; omega] at c2
  have d1 : decide ((i : Int) < (b : Int)) = true := by rw [decide_eq_true_eq]; omega
  have d1' : (i : Int) < (b : Int) := by omega
  have d2 : ((p : Int) != (i : Int)) = true := by simp; omega
  have d3 : ((p : Int) == (i : Int)) = false := by simp; omega
  rcases Nat.lt_or_ge i H with h | h
  case' inl =>
    have e1 : decide (i < H) = true := by rw [decide_eq_true_eq]; omega
    have e2 : decide (p < H) = false := by rw [decide_eq_false_iff_not]; omega
  case' inr =>
    have e1 : decide (i < H) = false := by rw [decide_eq_false_iff_not]; omega
    have e2 : decide (p < H) = true := by rw [decide_eq_true_eq]; omega
  all_goals
    clear h hl hp hq hne hlt hi i1
    go_enter Tryd.func5, Tryd.ntmps5
    go_wp2_with fail
    refine (first_w _).mono ?_
    rintro e w1 ⟨rfl, hb1⟩
    have z1 := hb1.size
    go_wp2_with fail
    refine (hg _).mono ?_
    rintro e w2 ⟨rfl, hb2⟩
    have z2 := hb2.size
    obtain ⟨g0, g1⟩ := new2 w2 (.int .i64 b) (.int .i64 H) 24
    go_wp2_with fail
    refine (cP _).mono ?_
    rintro e w3 ⟨rfl, hb3⟩
    replace g0 := kept hb3 g0
    replace g1 := kept hb3 g1
    have c := below_put hb2 z2 _ hb3
    clear hb2 hb3
    have z3 := c.size
    go_wp2_with fail
    refine (cQ _).mono ?_
    rintro e w4 ⟨rfl, hb4⟩
    replace g0 := kept hb4 g0
    replace g1 := kept hb4 g1
    replace c := c.trans (hb4.mono z3)
    clear hb4 z3
    have z3 := c.size
    go_wp2_with fail
    refine (cD _).mono ?_
    rintro e w5 ⟨rfl, hb5⟩
    replace g0 := kept hb5 g0
    replace g1 := kept hb5 g1
    replace c := c.trans (hb5.mono z3)
    clear hb5 z3
    have z3 := c.size
    go_wp2_with fail
    refine (c1 _ _ (Row.fresh _ #[.int .i64 (i : Int), .int .i64 7, .int .i64 (p : Int)] _ (0, 0) 3 rfl (by decide))).mono ?_
    rintro e w6 ⟨rfl, hb6⟩
    replace g0 := kept hb6 (cell?_alloc_old _ g0)
    replace g1 := kept hb6 (cell?_alloc_old _ g1)
    replace c := below_put c z3 _ hb6
    clear hb6 z3
    have z3 := c.size
    go_wp2_with fail
    refine (c2 _ _ (Row.fresh _ #[.int .i64 (i : Int), .int .i64 (i : Int)] _ (0, 0) 2 rfl (by decide))).mono ?_
    rintro e w7 ⟨rfl, hb7⟩
    replace c := below_put c z3 _ hb7
    clear hb7 g0 g1 cP cD cQ hg c1 c2
    go_wp2_with fail
    go_ret
    exact ⟨rfl, hb1.trans (c.mono z1)⟩

set_option maxHeartbeats 1600000 in
theorem bad (b i : Int) (E : Addr) (w : World) (hE : Err.At w 0 E) (h : b < 300 ∨ 6000 < b) :
    Calls Tryd.prog 5 #[.int .i64 b, .int .i64 i] w fun e w' => e = .returned (.bool true) ∧ Below w.heap.size w w' := by
  go_enter Tryd.func5, Tryd.ntmps5
  go_wp2_with fail
  refine (first_w _).mono ?_
  rintro e w1 ⟨rfl, hb1⟩
  replace hE := hE.below hb1
  have z1 := hb1.size
  go_wp2_with fail
  refine (of_bad b E _ hE h).mono ?_
  rintro e w2 ⟨rfl, hb2⟩
  have z2 := hb2.size
  clear hE h
  go_wp2_with fail
  go_ret
  exact ⟨rfl, hb1.trans ((hb2.alloc z2 _).mono z1)⟩

theorem walk (a0 a1 : Int) (w : World) (hA : Err.All w [0]) (w0 : (Lit.int .i64 a0).wf = true) (w1 : (Lit.int .i64 a1).wf = true) :
    Calls Tryd.prog 5 #[.int .i64 a0, .int .i64 a1] w fun e w' => e = .returned (.bool true) ∧ Below w.heap.size w w' := by
  obtain ⟨E, hE⟩ := hA.at 0 _ rfl
  have h1 := int_of w1
  by_cases h : a0 < 300 ∨ 6000 < a0
  · exact bad a0 a1 E w hE h
  · obtain ⟨b, rfl⟩ := Int.eq_ofNat_of_zero_le (a := a0) (by omega)
    by_cases hi : a1 < 0 ∨ 2 * (half b : Int) ≤ a1
    · exact alone b a1 w (by omega) (by omega) h1.2 hi
    · obtain ⟨i, rfl⟩ := Int.eq_ofNat_of_zero_le (a := a1) (by omega)
      have hi2 : i < 2 * half b := by omega
      rcases Nat.lt_or_ge i (half b) with hh | hh
      · refine both b i (i + half b) w (by omega) (by omega) hi2 ?_ ?_ (by omega) (by omega)
        · unfold pti pt; rw [if_neg (by omega), Int.toNat_natCast, if_pos hh]
        · unfold pti pt; rw [if_neg (by omega), Int.toNat_natCast, if_neg (by omega), if_pos (by omega), Nat.add_sub_cancel]
      · refine both b i (i - half b) w (by omega) (by omega) hi2 ?_ ?_ (by omega) (by omega)
        · unfold pti pt; rw [if_neg (by omega), Int.toNat_natCast, if_neg (by omega), if_pos hi2]
        · unfold pti pt; rw [if_neg (by omega), Int.toNat_natCast, if_pos (by omega), Nat.sub_add_cancel hh]
end Go.Proofs.YtdgbgdkfoeoppaaDoor.geoPairs
