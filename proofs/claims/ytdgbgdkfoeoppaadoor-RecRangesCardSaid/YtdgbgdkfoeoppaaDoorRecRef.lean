/- The walks of the reference's keys. -/
import Derived.Test.YtdgbgdkfoeoppaaDoorRecKeyB
namespace Go.Proofs.YtdgbgdkfoeoppaaDoor.RecW
open Go Go.RowKit Go.Proofs.YtdgbgdkfoeoppaaDoor.Mem Go.Proofs.YtdgbgdkfoeoppaaDoor.RefW Go.Proofs.YtdgbgdkfoeoppaaDoor.Text
set_option linter.unusedVariables false
set_option maxRecDepth 100000

set_option maxHeartbeats 3200000 in
theorem rkey_bad (k n i : Int) (s : ByteArray) (w : World) (h : Bad k n i s) :
    Calls Tryd.prog 32 #[.int .i64 k, .int .i64 n, .int .i64 i, .string s] w fun e w' => e = .returned (.tuple #[.slice none 0 0, .int .i64 103]) ∧ Below w.heap.size w w' := by
  have HH := hid h
  clear h
  by_cases hs : s.size = 0
  case' pos => have he := empty_of hs
  case' neg => have he := some_of hs
  all_goals
    go_enter Tryd.func32, Tryd.ntmps32
    go_wp2_with fail
    all_goals first | (exfalso; have h := HH.out; unfold Bad at h; (try simp only [bne_iff_ne, ne_eq, bne_eq_false_iff_eq] at *); omega) | refine bodyPost_ret (v := .tuple #[.slice none 0 0, .int .i64 103]) (by simp [results, Tryd.results32, go_sem]) rfl ⟨rfl, Below.refl _ _⟩
set_option maxHeartbeats 1600000 in
theorem rkey_long (k n i : Int) (s : ByteArray) (w : World) (h : ¬ Bad k n i s) (hl : 24 < s.size) :
    Calls Tryd.prog 32 #[.int .i64 k, .int .i64 n, .int .i64 i, .string s] w fun e w' => e = .returned (.tuple #[.slice none 0 0, .int .i64 115]) ∧ Below w.heap.size w w' := by
  have he := some_of (s := s) (by omega)
  unfold Bad at h
  obtain rfl : k = 3 := by omega
  have d1 : decide (n < 0) = false := by rw [decide_eq_false_iff_not]; omega
  have d2 : decide (16777216 ≤ n) = false := by rw [decide_eq_false_iff_not]; omega
  obtain rfl : i = 0 := by omega
  have d3 : decide ((24 : Int) < (s.size : Int)) = true := by rw [decide_eq_true_eq]; omega
  clear h
  go_enter Tryd.func32, Tryd.ntmps32
  go_wp2_with fail
  refine bodyPost_ret (v := .tuple #[.slice none 0 0, .int .i64 115]) (by simp [results, Tryd.results32, go_sem]) rfl ⟨rfl, Below.refl _ _⟩

end Go.Proofs.YtdgbgdkfoeoppaaDoor.RecW
