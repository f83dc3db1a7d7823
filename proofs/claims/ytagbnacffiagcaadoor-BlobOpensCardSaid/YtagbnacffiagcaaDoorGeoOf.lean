/- The walk of geo.Of. -/
import Derived.Test.YtagbnacffiagcaaDoorProg
import Derived.Test.YtagbnacffiagcaaDoorMem
import Derived.Test.YtagbnacffiagcaaDoorErr
import Derived.Deep.DeepMust
import Derived.Deep.QuietTactic
import Derived.Deep.RegionWith
import Derived.BigQuiet
namespace Go.Proofs.YtagbnacffiagcaaDoor.GeoW
open Go Go.RowKit Go.Proofs.YtagbnacffiagcaaDoor.Mem
set_option linter.unusedVariables false
set_option maxRecDepth 100000

/-- a half's blocks -/
def half (b : Nat) : Nat := min (b / 4) 512
theorem half_le (b : Nat) : 2 * half b ≤ b := by unfold half; omega
theorem half_512 (b : Nat) : half b ≤ 512 := by unfold half; omega

/-- a geometry as a value -/
abbrev G (b h : Int) : Value := .agg #[.int .i64 b, .int .i64 h]

theorem of_good (b : Nat) (w : World) (h1 : 300 ≤ b) (h2 : b ≤ 6000) :
    Calls Tryd.prog 102 #[.int .i64 b] w fun e w' => e = .returned (.tuple #[G b (half b), .nilIface]) ∧ Below w.heap.size w w' := by
  have HH := hid (show half b = min (b / 4) 512 from rfl)
  have d1 : decide ((b : Int) < 300) = false := by rw [decide_eq_false_iff_not]; omega
  have d2 : decide ((6000 : Int) < (b : Int)) = false := by rw [decide_eq_false_iff_not]; omega
  rcases Nat.lt_or_ge (b / 4) 512 with h | h
  · have d3 : (b : Int) / 4 < 512 := by omega
    rw [Nat.min_eq_left (by omega)] at HH
    go_enter Tryd.func102, Tryd.ntmps102
    go_wp2
    refine bodyPost_ret (v := .tuple #[G b (((b / 4 : Nat)) : Int), .nilIface]) (by simp [results, Tryd.results102, go_sem]) rfl ⟨by rw [HH.out], (Below.refl _ _).alloc (Nat.le_refl _) _⟩
  · have d3 : (512 : Int) ≤ (b : Int) / 4 := by omega
    rw [Nat.min_eq_right (by omega)] at HH
    go_enter Tryd.func102, Tryd.ntmps102
    go_wp2
    all_goals refine bodyPost_ret (v := .tuple #[G b 512, .nilIface]) (by simp [results, Tryd.results102, go_sem]; try omega) rfl ⟨by rw [HH.out]; rfl, (Below.refl _ _).alloc (Nat.le_refl _) _⟩

theorem of_bad (b : Int) (a : Addr) (w : World) (hE : Err.At w 0 a) (h : b < 300 ∨ 6000 < b) :
    Calls Tryd.prog 102 #[.int .i64 b] w fun e w' => e = .returned (.tuple #[G 0 0, .iface Err.tp (.pointer (some a))]) ∧ Below w.heap.size w w' := by
  obtain ⟨hE1, hE2⟩ := hE
  have hg : (0 : Nat) < w.heap.size := World.block_lt_of_cell? w _ hE1
  rcases Int.lt_or_le b 300 with h1 | h1
  · have d1 : decide (b < 300) = true := by rw [decide_eq_true_eq]; omega
    clear h
    go_enter Tryd.func102, Tryd.ntmps102
    go_wp2
    go_region
    all_goals go_wp2
    all_goals refine bodyPost_ret (v := .tuple #[G 0 0, .iface Err.tp (.pointer (some a))]) (by simp [results, Tryd.results102, go_sem]) rfl ⟨rfl, ((Below.refl _ _).alloc (Nat.le_refl _) _).drew⟩
  · have d1 : decide (b < 300) = false := by rw [decide_eq_false_iff_not]; omega
    have d2 : decide ((6000 : Int) < b) = true := by rw [decide_eq_true_eq]; omega
    clear h
    go_enter Tryd.func102, Tryd.ntmps102
    go_wp2
    go_region
    all_goals go_wp2
    all_goals refine bodyPost_ret (v := .tuple #[G 0 0, .iface Err.tp (.pointer (some a))]) (by simp [results, Tryd.results102, go_sem]) rfl ⟨rfl, ((Below.refl _ _).alloc (Nat.le_refl _) _).drew⟩
end Go.Proofs.YtagbnacffiagcaaDoor.GeoW
