/- Places in order: Less; and the keys of places stand as the places do. -/
import Derived.Test.YtdgbgdkfoeoppaaDoorRecLessB
import Derived.Test.YtdgbgdkfoeoppaaDoorRecKeyB
import Derived.Deep.RegionHeld
import Derived.Deep.CutRange
namespace Go.Proofs.YtdgbgdkfoeoppaaDoor.RecW
open Go Go.RowKit Go.Proofs.YtdgbgdkfoeoppaaDoor.Mem Go.Proofs.YtdgbgdkfoeoppaaDoor.RefW Go.Proofs.YtdgbgdkfoeoppaaDoor.Text
set_option linter.unusedVariables false
set_option maxRecDepth 100000

/-- is one place ahead of another one, as the program finds it -/
def lessA (k n i : Int) (s : ByteArray) (k' n' i' : Int) (s' : ByteArray) : Bool :=
  decide (orL [sgn k k', sgn n n', sgn i i', Lib.compareBytes s.data.toList s'.data.toList] < 0)

set_option maxHeartbeats 3200000 in
theorem less_w (k n i : Int) (s : ByteArray) (k' n' i' : Int) (s' : ByteArray) (w : World) :
    Calls Tryd.prog 51 #[P k n i s, P k' n' i' s'] w fun e w' => e = .returned (.bool (lessA k n i s k' n' i' s')) ∧ Below w.heap.size w w' := by
  obtain ⟨c0, c1, c2, c3⟩ := new4 w (.int .i64 k) (.int .i64 n) (.int .i64 i) (.string s) 43
  obtain ⟨d0, d1, d2, d3⟩ := new4 (w.alloc (.cells #[.int .i64 k, .int .i64 n, .int .i64 i, .string s] 43)) (.int .i64 k') (.int .i64 n') (.int .i64 i') (.string s') 43
  replace c0 := cell?_alloc_old (.cells #[.int .i64 k', .int .i64 n', .int .i64 i', .string s'] 43) c0
  replace c1 := cell?_alloc_old (.cells #[.int .i64 k', .int .i64 n', .int .i64 i', .string s'] 43) c1
  replace c2 := cell?_alloc_old (.cells #[.int .i64 k', .int .i64 n', .int .i64 i', .string s'] 43) c2
  replace c3 := cell?_alloc_old (.cells #[.int .i64 k', .int .i64 n', .int .i64 i', .string s'] 43) c3
  have hz : (w.alloc (.cells #[.int .i64 k, .int .i64 n, .int .i64 i, .string s] 43)).heap.size = w.heap.size + 1 := by simp
  rw [hz] at d0 d1 d2 d3
  clear hz
  have hb : Below w.heap.size w ((w.alloc (.cells #[.int .i64 k, .int .i64 n, .int .i64 i, .string s] 43)).alloc (.cells #[.int .i64 k', .int .i64 n', .int .i64 i', .string s'] 43)) := ((Below.refl _ _).alloc (Nat.le_refl _) _).alloc (by simp) _
  have hy : ((w.alloc (.cells #[.int .i64 k, .int .i64 n, .int .i64 i, .string s] 43)).alloc (.cells #[.int .i64 k', .int .i64 n', .int .i64 i', .string s'] 43)).heap.size = w.heap.size + 2 := by simp
  go_enter Tryd.func51, Tryd.ntmps51
  go_upto_region 1 with fail
  generalize (w.alloc (.cells #[.int .i64 k, .int .i64 n, .int .i64 i, .string s] 43)).alloc (.cells #[.int .i64 k', .int .i64 n', .int .i64 i', .string s'] 43) = W at *
  have hI : Ints.Is (W.alloc (.cells #[.int .i64 (sgn k k'), .int .i64 (sgn n n'), .int .i64 (sgn i i'), .int .i64 (Lib.compareBytes s.data.toList s'.data.toList)] 3)).drew (some ⟨w.heap.size + 2, 0, none⟩) 4 4 [sgn k k', sgn n n', sgn i i', Lib.compareBytes s.data.toList s'.data.toList] := by
    have h := Row.fresh W #[.int .i64 (sgn k k'), .int .i64 (sgn n n'), .int .i64 (sgn i i'), .int .i64 (Lib.compareBytes s.data.toList s'.data.toList)] 3 (0, 0) 4 rfl (by decide)
    rw [hy] at h
    exact h.below (Below.refl _ _).drew
  go_region_held (fun w' => w'.cell? ⟨w.heap.size, 0, none⟩ = some (.int .i64 k) ∧ w'.cell? ⟨w.heap.size, 1, none⟩ = some (.int .i64 n) ∧ w'.cell? ⟨w.heap.size, 2, none⟩ = some (.int .i64 i) ∧ w'.cell? ⟨w.heap.size, 3, none⟩ = some (.string s) ∧ w'.cell? ⟨w.heap.size + 1, 0, none⟩ = some (.int .i64 k') ∧ w'.cell? ⟨w.heap.size + 1, 1, none⟩ = some (.int .i64 n') ∧ w'.cell? ⟨w.heap.size + 1, 2, none⟩ = some (.int .i64 i') ∧ w'.cell? ⟨w.heap.size + 1, 3, none⟩ = some (.string s')) (first | exact ⟨c0, c1, c2, c3, d0, d1, d2, d3⟩ | go_keep)
    (((first | with_reducible refine (cmp_w _ _ _).mono ?_ | with_reducible refine (strs_w _ _ _).mono ?_ | refine (or_w _ 4 4 _ _ hI).mono ?_); rintro e w' ⟨rfl, rfl⟩))
  all_goals
    go_wp2_with fail
    go_ret
    exact ⟨rfl, (hb.alloc (by rw [hy]; omega) _).drew⟩
end Go.Proofs.YtdgbgdkfoeoppaaDoor.RecW
