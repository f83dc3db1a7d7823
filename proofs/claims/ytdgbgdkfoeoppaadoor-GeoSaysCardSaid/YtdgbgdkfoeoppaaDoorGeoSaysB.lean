/- The walk of GeoSays where the blocks are too few or too many, or the list is too long. -/
import Derived.Test.YtdgbgdkfoeoppaaDoorGeoFirst
import Derived.Test.YtdgbgdkfoeoppaaDoorGeoSayA
import Derived.Test.YtdgbgdkfoeoppaaDoorPaired
import Derived.Test.YtdgbgdkfoeoppaaDoorSeeWalk
namespace Go.Proofs.YtdgbgdkfoeoppaaDoor.geoSays
open Go Go.RowKit Go.Proofs.YtdgbgdkfoeoppaaDoor.Mem Go.Proofs.YtdgbgdkfoeoppaaDoor.GeoW
set_option linter.unusedVariables false
set_option maxRecDepth 100000

theorem long (b i : Int) (a : Option Addr) (n cap : Nat) (w : World) (hn : 40 < n) :
    Calls Tryd.prog 6 #[.int .i64 b, .int .i64 i, .slice a n cap] w fun e w' => e = .returned (.bool true) ∧ Below w.heap.size w w' := by
  have d1 : decide ((40 : Int) < (n : Int)) = true := by rw [decide_eq_true_eq]; omega
  go_enter Tryd.func6, Tryd.ntmps6
  go_wp2_with fail
  refine (first_w _).mono ?_
  rintro e w1 ⟨rfl, hb1⟩
  go_wp2_with fail
  go_ret
  exact ⟨rfl, hb1⟩

set_option maxHeartbeats 1600000 in
theorem bad (b i : Int) (a : Option Addr) (n cap : Nat) (bs : List Addr) (w : World) (hn : n ≤ 40) (hB : SeeW.Bs w bs) (h : b < 300 ∨ 6000 < b) :
    Calls Tryd.prog 6 #[.int .i64 b, .int .i64 i, .slice a n cap] w fun e w' => e = .returned (.bool true) ∧ Below w.heap.size w w' := by
  have d1 : decide ((40 : Int) < (n : Int)) = false := by rw [decide_eq_false_iff_not]; omega
  go_enter Tryd.func6, Tryd.ntmps6
  go_wp2_with fail
  refine (first_w _).mono ?_
  rintro e w1 ⟨rfl, hb1⟩
  replace hB := hB.below hb1
  have z1 := hb1.size
  obtain ⟨E, hE, hA⟩ := hB.2.2 2 _ rfl
  go_wp2_with fail
  refine (of_bad b E _ hA h).mono ?_
  rintro e w2 ⟨rfl, hb2⟩
  replace hB := hB.below hb2
  have z2 := hb2.size
  obtain ⟨g0, g1⟩ := new2 w2 (.int .i64 0) (.int .i64 0) 24
  clear hA
  go_wp2_with fail
  refine (rgeo_bad b _ h).mono ?_
  rintro e w3 ⟨rfl, hb3⟩
  replace g0 := kept hb3 g0
  replace g1 := kept hb3 g1
  replace hB := hB.below (below_put (Below.refl w2.heap.size w2) (Nat.le_refl _) _ hb3)
  have c := below_put hb2 z2 _ hb3
  have z3 := c.size
  clear hb2 hb3 h
  obtain ⟨x0, x1⟩ := new2 w3 (.int .i64 0) (.int .i64 0) 24
  replace g0 := cell?_alloc_old (.cells #[.int .i64 0, .int .i64 0] 24) g0
  replace g1 := cell?_alloc_old (.cells #[.int .i64 0, .int .i64 0] 24) g1
  have HB := hid (hB.below ((Below.refl _ _).alloc (Nat.le_refl _) (.cells #[.int .i64 0, .int .i64 0] 24)))
  have HE := hid hE
  clear hE hB
  go_wp2_with fail
  refine (SeeW.is_w bs _ HB.out 2 E HE.out 103).mono ?_
  rintro e w4 ⟨rfl, hb4⟩
  rw [show (101 + ((2 : Nat) : Int) == 103) = true by decide]
  replace g0 := kept hb4 g0
  replace g1 := kept hb4 g1
  replace x0 := kept hb4 x0
  replace x1 := kept hb4 x1
  replace c := below_put c z3 _ hb4
  clear hb4
  go_wp2_with fail
  go_ret
  exact ⟨rfl, hb1.trans (c.mono z1)⟩
end Go.Proofs.YtdgbgdkfoeoppaaDoor.geoSays
