/- The walks of package geo. -/
import Derived.Test.YtdgbgdkfoeoppaaDoorProg
import Derived.Test.YtdgbgdkfoeoppaaDoorMem
import Derived.Test.YtdgbgdkfoeoppaaDoorErr
import Derived.Deep.DeepMust
import Derived.Deep.QuietTactic
import Derived.Deep.RegionWith
import Derived.BigQuiet
namespace Go.Proofs.YtdgbgdkfoeoppaaDoor.GeoW
open Go Go.RowKit Go.Proofs.YtdgbgdkfoeoppaaDoor.Mem
set_option linter.unusedVariables false
set_option maxRecDepth 100000

/-- a half's blocks -/
def half (b : Nat) : Nat := min (b / 4) 512
theorem half_le (b : Nat) : 2 * half b ≤ b := by unfold half; omega
theorem half_512 (b : Nat) : half b ≤ 512 := by unfold half; omega

/-- a geometry as a value -/
abbrev G (b h : Int) : Value := .agg #[.int .i64 b, .int .i64 h]

theorem of_good (b : Nat) (w : World) (h1 : 300 ≤ b) (h2 : b ≤ 6000) :
    Calls Tryd.prog 17 #[.int .i64 b] w fun e w' => e = .returned (.tuple #[G b (half b), .nilIface]) ∧ Below w.heap.size w w' := by
  have HH := hid (show half b = min (b / 4) 512 from rfl)
  have d1 : decide ((b : Int) < 300) = false := by rw [decide_eq_false_iff_not]; omega
  have d2 : decide ((6000 : Int) < (b : Int)) = false := by rw [decide_eq_false_iff_not]; omega
  rcases Nat.lt_or_ge (b / 4) 512 with h | h
  · have d3 : (b : Int) / 4 < 512 := by omega
    rw [Nat.min_eq_left (by omega)] at HH
    go_enter Tryd.func17, Tryd.ntmps17
    go_wp2
    refine bodyPost_ret (v := .tuple #[G b (((b / 4 : Nat)) : Int), .nilIface]) (by simp [results, Tryd.results17, go_sem]) rfl ⟨by rw [HH.out], (Below.refl _ _).alloc (Nat.le_refl _) _⟩
  · have d3 : (512 : Int) ≤ (b : Int) / 4 := by omega
    rw [Nat.min_eq_right (by omega)] at HH
    go_enter Tryd.func17, Tryd.ntmps17
    go_wp2
    all_goals refine bodyPost_ret (v := .tuple #[G b 512, .nilIface]) (by simp [results, Tryd.results17, go_sem]; try omega) rfl ⟨by rw [HH.out]; rfl, (Below.refl _ _).alloc (Nat.le_refl _) _⟩

theorem of_bad (b : Int) (a : Addr) (w : World) (hE : Err.At w 0 a) (h : b < 300 ∨ 6000 < b) :
    Calls Tryd.prog 17 #[.int .i64 b] w fun e w' => e = .returned (.tuple #[G 0 0, .iface Err.tp (.pointer (some a))]) ∧ Below w.heap.size w w' := by
  obtain ⟨hE1, hE2⟩ := hE
  have hg : (0 : Nat) < w.heap.size := World.block_lt_of_cell? w _ hE1
  rcases Int.lt_or_le b 300 with h1 | h1
  · have d1 : decide (b < 300) = true := by rw [decide_eq_true_eq]; omega
    clear h
    go_enter Tryd.func17, Tryd.ntmps17
    go_wp2
    go_region
    all_goals go_wp2
    all_goals refine bodyPost_ret (v := .tuple #[G 0 0, .iface Err.tp (.pointer (some a))]) (by simp [results, Tryd.results17, go_sem]) rfl ⟨rfl, ((Below.refl _ _).alloc (Nat.le_refl _) _).drew⟩
  · have d1 : decide (b < 300) = false := by rw [decide_eq_false_iff_not]; omega
    have d2 : decide ((6000 : Int) < b) = true := by rw [decide_eq_true_eq]; omega
    clear h
    go_enter Tryd.func17, Tryd.ntmps17
    go_wp2
    go_region
    all_goals go_wp2
    all_goals refine bodyPost_ret (v := .tuple #[G 0 0, .iface Err.tp (.pointer (some a))]) (by simp [results, Tryd.results17, go_sem]) rfl ⟨rfl, ((Below.refl _ _).alloc (Nat.le_refl _) _).drew⟩

theorem datas_w (b h : Nat) (w : World) (hb : b ≤ 6000) (hh : 2 * h ≤ b) :
    Calls Tryd.prog 19 #[G b h] w fun e w' => e = .returned (.int .i64 ((b - 2 * h : Nat) : Int)) ∧ Below w.heap.size w w' := by
  have d1 : (0 : Int) ≤ (b : Int) - 2 * (h : Int) := by omega
  have HE := hid (show (b : Int) - 2 * (h : Int) = ((b - 2 * h : Nat) : Int) by omega)
  go_enter Tryd.func19, Tryd.ntmps19
  go_wp2
  all_goals go_ret
  all_goals exact ⟨ret_int (by have := HE.out; simp at *; omega), (Below.refl _ _).alloc (Nat.le_refl _) _⟩

def quota (b h : Nat) : Nat := min ((b - 2 * h) / 2 - 8) (h - 60)
theorem datas_d (d h : Nat) (x : Int) (w : World) (hx : x = ((d + 2 * h : Nat) : Int)) (hb : d + 2 * h ≤ 6000) :
    Calls Tryd.prog 19 #[.agg #[.int .i64 x, .int .i64 h]] w fun e w' => e = .returned (.int .i64 (d : Int)) ∧ Below w.heap.size w w' := by
  subst hx
  have := datas_w (d + 2 * h) h w hb (by omega)
  rw [Nat.add_sub_cancel] at this
  exact this
set_option maxHeartbeats 800000 in
theorem quota_w (b h : Nat) (w : World) (hb : b ≤ 6000) (hh : 2 * h ≤ b) :
    Calls Tryd.prog 18 #[G b h] w fun e w' => e = .returned (.int .i64 ((quota b h : Nat) : Int)) ∧ Below w.heap.size w w' := by
  obtain ⟨d, rfl⟩ : ∃ d, b = d + 2 * h := ⟨b - 2 * h, by omega⟩
  have HQ := hid (show quota (d + 2 * h) h = min (d / 2 - 8) (h - 60) by unfold quota; rw [Nat.add_sub_cancel])
  obtain ⟨x, hx⟩ : ∃ x : Int, x = ((d + 2 * h : Nat) : Int) := ⟨_, rfl⟩
  have HX := hid hx
  show Calls Tryd.prog 18 #[.agg #[.int .i64 ((d + 2 * h : Nat) : Int), .int .i64 h]] w _
  rw [← hx]
  clear hx
  have v1 : IntKind.i64.wrap ((d : Int) / 2) = (d : Int) / 2 := IntWalk.i64_in _ (by omega)
  have v2 : IntKind.i64.wrap ((d : Int) / 2 - 8) = (d : Int) / 2 - 8 := IntWalk.i64_in _ (by omega)
  have v3 : IntKind.i64.wrap ((h : Int) - 60) = (h : Int) - 60 := IntWalk.i64_in _ (by omega)
  go_enter Tryd.func18, Tryd.ntmps18
  go_wp2_with fail
  go_region_with ((go_at_call 19; refine (datas_d d h x _ HX.out hb).mono ?_; rintro e w1 ⟨rfl, hb1⟩; have hc1 : w1.cell? ⟨w.heap.size, 1, none⟩ = some (.int .i64 (h : Int)) := by (rw [hb1.cell (by simp)]; simp)))
  all_goals
    clear v1 v2 v3 hc1
    have hb2 : Below w.heap.size w w1 := ((((Below.refl w.heap.size w).alloc (Nat.le_refl _) _).drew).trans (hb1.mono (by simp)))
    clear hb1
    go_wp2
  all_goals
    go_ret
    refine ⟨ret_int ?_, hb2⟩
    rw [HQ.out]
    omega
end Go.Proofs.YtdgbgdkfoeoppaaDoor.GeoW
