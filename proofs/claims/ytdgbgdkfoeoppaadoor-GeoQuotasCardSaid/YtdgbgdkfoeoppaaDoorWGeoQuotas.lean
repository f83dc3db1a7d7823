/- The walk of GeoQuotas. -/
import Derived.Test.YtdgbgdkfoeoppaaDoorGeoFirst
namespace Go.Proofs.YtdgbgdkfoeoppaaDoor.geoQuotas
open Go Go.RowKit Go.Proofs.YtdgbgdkfoeoppaaDoor.Mem Go.Proofs.YtdgbgdkfoeoppaaDoor.GeoW
set_option linter.unusedVariables false
set_option maxRecDepth 100000

theorem quota_mono {a b : Nat} (h : a ≤ b) : quota a (half a) ≤ quota b (half b) := by unfold quota half; omega
theorem quota_data {a : Nat} (h : 0 < quota a (half a)) : 2 * quota a (half a) + 16 ≤ a - 2 * half a ∧ quota a (half a) + 60 ≤ half a := by unfold quota at *; omega

set_option maxHeartbeats 1600000 in
theorem done (a b : Nat) (w : World) (a1 : 300 ≤ a) (a2 : a ≤ 6000) (b1 : 300 ≤ b) (b2 : b ≤ 6000) :
    Calls Tryd.prog 3 #[.int .i64 a, .int .i64 b] w fun e w' => e = .returned (.bool true) ∧ Below w.heap.size w w' := by
  go_enter Tryd.func3, Tryd.ntmps3
  go_wp2_with fail
  refine (first_w _).mono ?_
  rintro e w1 ⟨rfl, hb1⟩
  have z1 := hb1.size
  go_wp2_with fail
  refine (of_good a _ a1 a2).mono ?_
  rintro e w2 ⟨rfl, hb2⟩
  have z2 := hb2.size
  go_wp2_with fail
  refine (of_good b _ b1 b2).mono ?_
  rintro e w3 ⟨rfl, hb3⟩
  obtain ⟨g0, g1⟩ := new2 w2 (.int .i64 a) (.int .i64 (half a)) 24
  replace g0 := kept hb3 g0
  replace g1 := kept hb3 g1
  have c3 := below_put hb2 z2 _ hb3
  have y3 := hb3.size
  simp at y3
  have y3 : w2.heap.size < w3.heap.size := by omega
  have z3 := c3.size
  clear hb2 hb3
  go_wp2_with fail
  refine (quota_w a (half a) _ a2 (half_le a)).mono ?_
  rintro e w4 ⟨rfl, hb4⟩
  obtain ⟨h0, h1⟩ := new2 w3 (.int .i64 b) (.int .i64 (half b)) 24
  replace h0 := kept hb4 h0
  replace h1 := kept hb4 h1
  replace g0 := kept hb4 (cell?_alloc_old _ g0)
  replace g1 := kept hb4 (cell?_alloc_old _ g1)
  have c4 := below_put c3 z3 _ hb4
  have z4 := c4.size
  clear hb4 y3 z3 c3
  go_wp2_with fail
  refine (quota_w b (half b) _ b2 (half_le b)).mono ?_
  rintro e w5 ⟨rfl, hb5⟩
  replace g0 := kept hb5 g0
  replace g1 := kept hb5 g1
  have c5 := c4.trans (hb5.mono z4)
  have z5 := c5.size
  clear hb5 h0 h1 c4 z4
  have m1 := hid (show a ≤ b → quota a (half a) ≤ quota b (half b) from quota_mono)
  have m2 := hid (show 0 < quota a (half a) → 2 * quota a (half a) + 16 ≤ a - 2 * half a ∧ quota a (half a) + 60 ≤ half a from quota_data)
  have hq : quota a (half a) ≤ 10000 := by unfold quota; omega
  have hq' : quota b (half b) ≤ 10000 := by unfold quota; omega
  have hl := hid (half_le a)
  have hh := half_512 a
  generalize quota a (half a) = p at *
  generalize quota b (half b) = q at *
  generalize half a = H at *
  have tail : True := trivial
  have e1 : decide ((p : Int) < 0) = false := by rw [decide_eq_false_iff_not]; omega
  rcases Nat.lt_or_ge b a with hab | hab
  case' inl =>
    have e2 : decide (a ≤ b) = false := by rw [decide_eq_false_iff_not]; omega
    clear hab
  case' inr =>
    have e2 : decide (a ≤ b) = true := by rw [decide_eq_true_eq]; omega
    have e3 : decide (q < p) = false := by rw [decide_eq_false_iff_not]; have := m1.out hab; omega
    clear hab
  all_goals
    go_wp2_with fail
    refine (quota_w 0 0 _ (by omega) (by omega)).mono ?_
    rintro e w6 ⟨rfl, hb6⟩
    rw [show quota 0 0 = 0 by decide]
    replace g0 := kept hb6 g0
    replace g1 := kept hb6 g1
    have c6 := c5.trans (hb6.mono z5)
    have z6 := c6.size
    clear hb6 c5 z5
    rcases Nat.eq_zero_or_pos p with h0 | h0
    case' inl =>
      subst h0
      go_wp2_with fail
      go_ret
      exact ⟨rfl, hb1.trans (c6.mono z1)⟩
    have f1 : ((p : Int) == 0) = false := by rw [beq_eq_false_iff_ne]; omega
    go_wp2_with fail
    refine (datas_w a H _ a2 hl.out).mono ?_
    rintro e w7 ⟨rfl, hb7⟩
    replace g0 := kept hb7 g0
    replace g1 := kept hb7 g1
    obtain ⟨m3, m4⟩ := m2.out h0
    have f2 : decide (2 * (p : Int) + 16 ≤ ((a - 2 * H : Nat) : Int)) = true := by rw [decide_eq_true_eq]; omega
    have f3 : decide ((p : Int) + 60 ≤ (H : Int)) = true := by rw [decide_eq_true_eq]; omega
    generalize a - 2 * H = D at *
    go_wp2_with fail
    go_ret
    exact ⟨rfl, hb1.trans ((c6.trans (hb7.mono z6)).mono z1)⟩

theorem err_alloc {w w' : World} {g : Nat} {a : Addr} (o : Obj) (h : Err.At w g a) (hb : Below (w.alloc o).heap.size (w.alloc o) w') : Err.At w' g a :=
  h.below (((Below.refl _ _).alloc (Nat.le_refl _) o).trans (hb.mono (by simp)))

set_option maxHeartbeats 1600000 in
theorem bad (a b : Int) (E : Addr) (w : World) (hE : Err.At w 0 E) (h : (a < 300 ∨ 6000 < a) ∨ (b < 300 ∨ 6000 < b)) :
    Calls Tryd.prog 3 #[.int .i64 a, .int .i64 b] w fun e w' => e = .returned (.bool true) ∧ Below w.heap.size w w' := by
  by_cases ha : a < 300 ∨ 6000 < a
  · clear h
    by_cases hb : b < 300 ∨ 6000 < b
    · go_enter Tryd.func3, Tryd.ntmps3
      go_wp2_with fail
      refine (first_w _).mono ?_
      rintro e w1 ⟨rfl, hb1⟩
      replace hE := hE.below hb1
      have z1 := hb1.size
      go_wp2_with fail
      refine (of_bad a E _ hE ha).mono ?_
      rintro e w2 ⟨rfl, hb2⟩
      replace hE := hE.below hb2
      have z2 := hb2.size
      go_wp2_with fail
      refine (of_bad b E _ (hE.below ((Below.refl _ _).alloc (Nat.le_refl _) _)) hb).mono ?_
      rintro e w3 ⟨rfl, hb3⟩
      have c3 := below_put hb2 z2 _ hb3
      have z3 := c3.size
      clear ha hb
      go_wp2_with fail
      go_ret
      exact ⟨rfl, hb1.trans ((c3.alloc z3 _).mono z1)⟩
    · obtain ⟨q, rfl⟩ := Int.eq_ofNat_of_zero_le (a := b) (by omega)
      go_enter Tryd.func3, Tryd.ntmps3
      go_wp2_with fail
      refine (first_w _).mono ?_
      rintro e w1 ⟨rfl, hb1⟩
      replace hE := hE.below hb1
      have z1 := hb1.size
      go_wp2_with fail
      refine (of_bad a E _ hE ha).mono ?_
      rintro e w2 ⟨rfl, hb2⟩
      have z2 := hb2.size
      go_wp2_with fail
      refine (of_good q _ (by omega) (by omega)).mono ?_
      rintro e w3 ⟨rfl, hb3⟩
      have c3 := below_put hb2 z2 _ hb3
      have z3 := c3.size
      clear ha hb
      go_wp2_with fail
      go_ret
      exact ⟨rfl, hb1.trans ((c3.alloc z3 _).mono z1)⟩
  · have hb : b < 300 ∨ 6000 < b := by omega
    clear h
    obtain ⟨q, rfl⟩ := Int.eq_ofNat_of_zero_le (a := a) (by omega)
    go_enter Tryd.func3, Tryd.ntmps3
    go_wp2_with fail
    refine (first_w _).mono ?_
    rintro e w1 ⟨rfl, hb1⟩
    replace hE := hE.below hb1
    have z1 := hb1.size
    go_wp2_with fail
    refine (of_good q _ (by omega) (by omega)).mono ?_
    rintro e w2 ⟨rfl, hb2⟩
    replace hE := hE.below hb2
    have z2 := hb2.size
    go_wp2_with fail
    refine (of_bad b E _ (hE.below ((Below.refl _ _).alloc (Nat.le_refl _) _)) hb).mono ?_
    rintro e w3 ⟨rfl, hb3⟩
    have c3 := below_put hb2 z2 _ hb3
    have z3 := c3.size
    clear ha hb
    go_wp2_with fail
    go_ret
    exact ⟨rfl, hb1.trans ((c3.alloc z3 _).mono z1)⟩

theorem walk (a0 a1 : Int) (w : World) (hA : Err.All w [0]) (w0 : (Lit.int .i64 a0).wf = true) (w1 : (Lit.int .i64 a1).wf = true) :
    Calls Tryd.prog 3 #[.int .i64 a0, .int .i64 a1] w fun e w' => e = .returned (.bool true) ∧ Below w.heap.size w w' := by
  obtain ⟨E, hE⟩ := hA.at 0 _ rfl
  by_cases h : (a0 < 300 ∨ 6000 < a0) ∨ (a1 < 300 ∨ 6000 < a1)
  · exact bad a0 a1 E w hE h
  · obtain ⟨p, rfl⟩ := Int.eq_ofNat_of_zero_le (a := a0) (by omega)
    obtain ⟨q, rfl⟩ := Int.eq_ofNat_of_zero_le (a := a1) (by omega)
    exact done p q w (by omega) (by omega) (by omega) (by omega)
end Go.Proofs.YtdgbgdkfoeoppaaDoor.geoQuotas
