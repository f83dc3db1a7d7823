/- The walk of GeoBounds. -/
import Derived.Test.YtdgbgdkfoeoppaaDoorGeoBoundsA
namespace Go.Proofs.YtdgbgdkfoeoppaaDoor.geoBounds
open Go Go.RowKit Go.Proofs.YtdgbgdkfoeoppaaDoor.Mem Go.Proofs.YtdgbgdkfoeoppaaDoor.GeoW
set_option linter.unusedVariables false
set_option maxRecDepth 100000

set_option maxHeartbeats 1600000 in
theorem bad (b : Int) (i : Int) (bs : List Addr) (w : World) (hB : SeeW.Bs w bs) (h : b < 300 ∨ 6000 < b) :
    Calls Tryd.prog 4 #[.int .i64 b, .int .i64 i] w fun e w' => e = .returned (.bool true) ∧ Below w.heap.size w w' := by
  rcases (show b < 300 ∨ (300 ≤ b ∧ 6000 < b) by omega) with h1 | ⟨h0, h1⟩
  case' inl =>
    have d1 : decide (b < 300) = true := by rw [decide_eq_true_eq]; omega
  case' inr =>
    have d1 : decide (b < 300) = false := by rw [decide_eq_false_iff_not]; omega
    have d2 : decide ((6000 : Int) < b) = true := by rw [decide_eq_true_eq]; omega
  all_goals
    go_enter Tryd.func4, Tryd.ntmps4
    go_wp2_with fail
    refine (first_w _).mono ?_
    rintro e w1 ⟨rfl, hb1⟩
    have hB1 := hB.below hb1
    clear hB
    have z1 := hb1.size
    obtain ⟨E, hE, hA⟩ := hB1.2.2 2 _ rfl
    go_wp2_with fail
    refine (of_bad b E _ hA h).mono ?_
    rintro e w2 ⟨rfl, hb2⟩
    have z2 := hb2.size
    have hB2 := hid ((hB1.below hb2).below ((Below.refl _ _).alloc (Nat.le_refl _) (.cells #[.int .i64 0, .int .i64 0] 24)))
    have HE := hid hE
    clear hE hA h hB1
    go_wp2_with fail
    refine (SeeW.is_w bs _ hB2.out 2 E HE.out 103).mono ?_
    rintro e w3 ⟨rfl, hb3⟩
    have c := below_put hb2 z2 _ hb3
    rw [show (101 + ((2 : Nat) : Int) == 103) = true by decide]
    go_wp2_with fail
    go_ret
    exact ⟨rfl, hb1.trans (c.mono z1)⟩

theorem walk (a0 a1 : Int) (w : World) (hA : Err.All w SeeW.gl) (w0 : (Lit.int .i64 a0).wf = true) (w1 : (Lit.int .i64 a1).wf = true) :
    Calls Tryd.prog 4 #[.int .i64 a0, .int .i64 a1] w fun e w' => e = .returned (.bool true) ∧ Below w.heap.size w w' := by
  obtain ⟨bs, hB⟩ := SeeW.bs_of hA
  have h1 := int_of w1
  by_cases h : a0 < 300 ∨ 6000 < a0
  · exact bad a0 a1 bs w hB h
  · obtain ⟨p, rfl⟩ := Int.eq_ofNat_of_zero_le (a := a0) (by omega)
    exact good p a1 w (by omega) (by omega) h1.1 h1.2
end Go.Proofs.YtdgbgdkfoeoppaaDoor.geoBounds
