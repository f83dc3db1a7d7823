/- breviaryworld.Number: a number's rest. -/
import Derived.Test.YtagbnacffiagcaaDoorProg
import Derived.Test.YtagbnacffiagcaaDoorMem
namespace Go.Proofs.YtagbnacffiagcaaDoor.NumW
open Go Go.RowKit Go.Proofs.YtagbnacffiagcaaDoor.Mem
set_option linter.unusedVariables false
set_option maxRecDepth 100000

theorem tmod_pos {n b : Int} (hb : 0 < b) (h : ¬ n.tmod b < 0) : n.tmod b = n % b := by
  have h2 := Int.tmod_lt_of_pos n hb
  have h3 : n.tmod b % b = n % b := Int.emod_eq_emod_iff_emod_sub_eq_zero.2 (by
    have := Int.mul_tdiv_add_tmod n b
    have e : n.tmod b - n = b * (- n.tdiv b) := by rw [Int.mul_neg]; omega
    rw [e]; exact Int.mul_emod_right _ _)
  rw [← h3, Int.emod_eq_of_lt (by omega) h2]
theorem tmod_neg {n b : Int} (hb : 0 < b) (h : n.tmod b < 0) : n.tmod b + b = n % b := by
  have h1 : -b < n.tmod b := by
    have := Int.lt_tmod_of_pos n hb
    omega
  have h3 : (n.tmod b + b) % b = n % b := Int.emod_eq_emod_iff_emod_sub_eq_zero.2 (by
    have := Int.mul_tdiv_add_tmod n b
    have e : n.tmod b + b - n = b * (1 - n.tdiv b) := by rw [Int.mul_sub]; omega
    rw [e]; exact Int.mul_emod_right _ _)
  rw [← h3, Int.emod_eq_of_lt (by omega) (by omega)]

theorem number_w (n b : Int) (w : World) (hb : 0 < b) (hb2 : b ≤ 9223372036854775807) (h1 : -9223372036854775808 ≤ n) (h2 : n ≤ 9223372036854775807) :
    Calls Tryd.prog 11 #[.int .i64 n, .int .i64 b] w fun e w' => e = .returned (.int .i64 (n % b)) ∧ w = w' := by
  have q1 := Int.tmod_lt_of_pos n hb
  have q2 := Int.lt_tmod_of_pos n hb
  by_cases h : n.tmod b < 0
  · have HE := hid (tmod_neg hb h)
    go_enter Tryd.func11, Tryd.ntmps11
    go_wp2
    go_ret
    exact ⟨ret_int HE.out, rfl⟩
  · have HE := hid (tmod_pos hb h)
    go_enter Tryd.func11, Tryd.ntmps11
    go_wp2
    go_ret
    exact ⟨ret_int HE.out, rfl⟩
end Go.Proofs.YtagbnacffiagcaaDoor.NumW
