/- The walks of package rec: a place as bytes. -/
import Derived.Test.YtdgbgdkfoeoppaaDoorRecWalk
import Derived.BigQuiet
import Derived.Lib.Strings
namespace Go.Proofs.YtdgbgdkfoeoppaaDoor.RecW
open Go Go.RowKit Go.Proofs.YtdgbgdkfoeoppaaDoor.Mem Go.Proofs.YtdgbgdkfoeoppaaDoor.RefW Go.Proofs.YtdgbgdkfoeoppaaDoor.Text
set_option linter.unusedVariables false
set_option maxRecDepth 100000

/-- no place -/
def Bad (k n i : Int) (s : ByteArray) : Prop := k < 1 ∨ 4 < k ∨ n < 0 ∨ 16777215 < n ∨ i < 0 ∨ 16777215 < i ∨ (k ≠ 4 ∧ i ≠ 0) ∨ (k ≠ 3 ∧ s.size ≠ 0)
theorem toList_data (s : ByteArray) : s.toList = s.data.toList := Lib.toList_data s
theorem empty_of {s : ByteArray} (h : s.size = 0) : s.toList.isEmpty = true := by
  rw [toList_data, List.isEmpty_iff]
  exact List.eq_nil_of_length_eq_zero (by rw [Array.length_toList]; exact h)
theorem some_of {s : ByteArray} (h : s.size ≠ 0) : s.toList.isEmpty = false := by
  rw [toList_data, List.isEmpty_eq_false_iff]
  intro e
  apply h
  have : s.data.toList.length = 0 := by rw [e]; rfl
  rw [Array.length_toList] at this
  exact this

set_option maxHeartbeats 3200000 in
theorem key_bad (k n i : Int) (s : ByteArray) (E : Addr) (w : World) (hE : Err.At w 0 E) (h : Bad k n i s) :
    Calls Tryd.prog 31 #[P k n i s] w fun e w' => e = .returned (.tuple #[.slice none 0 0, SeeW.ev E]) ∧ Below w.heap.size w w' := by
  obtain ⟨hE1, hE2⟩ := hE
  have hg : (0 : Nat) < w.heap.size := World.block_lt_of_cell? w _ hE1
  have HH := hid h
  clear h
  by_cases hs : s.size = 0
  case' pos => have he := empty_of hs
  case' neg => have he := some_of hs
  all_goals
    go_enter Tryd.func31, Tryd.ntmps31
    go_wp2_with (first | (go_at_call 57; refine (number_w _ _).mono ?_; rintro e w' ⟨rfl, rfl⟩))
    all_goals first | (exfalso; have h := HH.out; unfold Bad at h; (try simp only [bne_iff_ne, ne_eq, bne_eq_false_iff_eq] at *); omega) | go_region
    all_goals go_wp2
    all_goals refine bodyPost_ret (v := .tuple #[.slice none 0 0, SeeW.ev E]) (by simp [results, Tryd.results31, go_sem]) rfl ⟨rfl, ((Below.refl _ _).alloc (Nat.le_refl _) _).drew⟩

set_option maxHeartbeats 1600000 in
theorem key_long (k n i : Int) (s : ByteArray) (E : Addr) (w : World) (hE : Err.At w 1 E) (h : ¬ Bad k n i s) (hl : 24 < s.size) :
    Calls Tryd.prog 31 #[P k n i s] w fun e w' => e = .returned (.tuple #[.slice none 0 0, SeeW.ev E]) ∧ Below w.heap.size w w' := by
  obtain ⟨hE1, hE2⟩ := hE
  have hg : (1 : Nat) < w.heap.size := World.block_lt_of_cell? w _ hE1
  have he := some_of (s := s) (by omega)
  unfold Bad at h
  obtain rfl : k = 3 := by omega
  have d1 : decide (0 ≤ n) = true := by rw [decide_eq_true_eq]; omega
  have d2 : decide (n ≤ 16777215) = true := by rw [decide_eq_true_eq]; omega
  obtain rfl : i = 0 := by omega
  have d3 : decide ((24 : Int) < (s.size : Int)) = true := by rw [decide_eq_true_eq]; omega
  have cn := fun w => number_w n w
  rw [d1, d2] at cn
  clear h
  go_enter Tryd.func31, Tryd.ntmps31
  go_wp2_with (first | (go_at_call 57; (first | refine (cn _).mono ?_ | refine (number_w 0 _).mono ?_); rintro e w' ⟨rfl, rfl⟩))
  go_region
  all_goals go_wp2
  all_goals refine bodyPost_ret (v := .tuple #[.slice none 0 0, SeeW.ev E]) (by simp [results, Tryd.results31, go_sem]) rfl ⟨rfl, ((Below.refl _ _).alloc (Nat.le_refl _) _).drew⟩

end Go.Proofs.YtdgbgdkfoeoppaaDoor.RecW
