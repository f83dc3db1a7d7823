/- The walks of the reference's keys. -/
import Derived.Test.YtdgbgdkfoeoppaaDoorRecRef
namespace Go.Proofs.YtdgbgdkfoeoppaaDoor.RecW
open Go Go.RowKit Go.Proofs.YtdgbgdkfoeoppaaDoor.Mem Go.Proofs.YtdgbgdkfoeoppaaDoor.RefW Go.Proofs.YtdgbgdkfoeoppaaDoor.Text
set_option linter.unusedVariables false
set_option maxRecDepth 100000

set_option maxHeartbeats 3200000 in
theorem rkey_good (k n i : Nat) (s : ByteArray) (w : World) (h : ¬ Bad k n i s) (hl : s.size ≤ 24) :
    Calls Tryd.prog 32 #[.int .i64 k, .int .i64 n, .int .i64 i, .string s] w fun e w' => ∃ v, e = .returned (.tuple #[v, .int .i64 0]) ∧ w'.ownsRow w.heap.size 5 1 v (keyL k n i (txt s)).length (nums .u8 (keyL k n i (txt s))) ∧ Below w.heap.size w w' := by
  unfold Bad at h
  have d1 : decide ((n : Int) < 0) = false := by rw [decide_eq_false_iff_not]; omega
  have d2 : decide (16777216 ≤ (n : Int)) = false := by rw [decide_eq_false_iff_not]; omega
  have d3 : decide ((24 : Int) < (s.size : Int)) = false := by rw [decide_eq_false_iff_not]; omega
  have d4 : decide ((i : Int) < 0) = false := by rw [decide_eq_false_iff_not]; omega
  have d5 : decide (16777216 ≤ (i : Int)) = false := by rw [decide_eq_false_iff_not]; omega
  have n1 : n < 16777216 := by omega
  have i1 : i < 16777216 := by omega
  have k1 : decide ((k : Int) < 1) = false := by rw [decide_eq_false_iff_not]; omega
  have k2 : decide (4 < (k : Int)) = false := by rw [decide_eq_false_iff_not]; omega
  have k5 : IntKind.u8.wrap (k : Int) = (k : Int) := wraps_u8 _ (by omega) (by omega)
  have O4 : ∀ o, ((w.alloc (.cells #[.int .u8 (k : Int), .int .u8 ((n : Int) / 65536), .int .u8 ((n : Int) / 256 % 256), .int .u8 ((n : Int) % 256)] 5)).alloc o).ownsRow w.heap.size 5 1 (.slice (some ⟨w.heap.size, 0, none⟩) 4 4) 4 (nums .u8 [k, n / 65536, n / 256 % 256, n % 256]) := fun o => by
    simpa using (own4 w k (n / 65536) (n / 256 % 256) (n % 256)).alloc o
  have P4 : (w.alloc (.cells #[.int .u8 (k : Int), .int .u8 ((n : Int) / 65536), .int .u8 ((n : Int) / 256 % 256), .int .u8 ((n : Int) % 256)] 5)).ownsRow w.heap.size 5 1 (.slice (some ⟨w.heap.size, 0, none⟩) 4 4) 4 (nums .u8 [k, n / 65536, n / 256 % 256, n % 256]) := by
    simpa using own4 w k (n / 65536) (n / 256 % 256) (n % 256)
  have R3 : Row ((w.alloc (.cells #[.int .u8 (k : Int), .int .u8 ((n : Int) / 65536), .int .u8 ((n : Int) / 256 % 256), .int .u8 ((n : Int) % 256)] 5)).alloc (.cells #[.int .u8 ((i : Int) / 65536), .int .u8 ((i : Int) / 256 % 256), .int .u8 ((i : Int) % 256)] 5)) 1 (some ⟨w.heap.size + 1, 0, none⟩) 3 3 (nums .u8 [i / 65536, i / 256 % 256, i % 256]) := by
    simpa [nums] using Row.fresh (w.alloc (.cells #[.int .u8 (k : Int), .int .u8 ((n : Int) / 65536), .int .u8 ((n : Int) / 256 % 256), .int .u8 ((n : Int) % 256)] 5)) #[.int .u8 ((i : Int) / 65536), .int .u8 ((i : Int) / 256 % 256), .int .u8 ((i : Int) % 256)] 5 (0, 0) 3 rfl (by decide)
  have E1 : n / 65536 % 256 = n / 65536 := Nat.mod_eq_of_lt (by omega)
  have E2 : i / 65536 % 256 = i / 65536 := Nat.mod_eq_of_lt (by omega)
  by_cases hk : k = 4
  · subst hk
    have he := empty_of (s := s) (by omega)
    have hz0 : s.size = 0 := by omega
    have e1 : txt s = [] := List.eq_nil_of_length_eq_zero (by rw [Text.length]; exact hz0)
    clear h k1 k2 k5 P4
    rcases hi0 : ((i : Int) != 0) with _ | _
    all_goals
      go_enter Tryd.func32, Tryd.ntmps32
      go_wp2_with (at_builtin; first
        | (refine wpList_app elU8 rfl _ _ rfl w.heap.size _ 4 _ rfl (O4 _) (some ⟨w.heap.size + 1, 0, none⟩) 3 3 _ rfl R3 (nums_oneCell _ _) (by decide) (by omega) (by simp; omega) ?_; intro v1 w1 o1 hb1 _; have z1 := hb1.size; simp at z1; have O1 : w1.ownsRow w.heap.size 5 1 v1 7 (nums .u8 [4, n / 65536, n / 256 % 256, n % 256, i / 65536, i / 256 % 256, i % 256]) := o1)
        | (go_must (refine wpList_text rfl _ _ rfl w.heap.size v1 7 _ rfl O1 s rfl (by omega) (by omega) ?_); intro v3 w3 o3 hb3))
      refine bodyPost_ret (v := .tuple #[v3, .int .i64 0]) (by simp [results, Tryd.results32, go_sem]) rfl ⟨_, rfl, ?_, ((((Below.refl _ _).alloc (Nat.le_refl _) _).alloc (by simp) _).trans hb1).trans hb3⟩
      rw [e1, hz0] at o3
      simpa [keyL, e1, b3, E1, E2] using o3
  · have hi : i = 0 := by omega
    subst hi
    have hx : (((k : Int) != 3) = true ∧ s.toList.isEmpty = true) ∨ ((k : Int) != 3) = false := by
      by_cases h3 : k = 3
      · exact .inr (by simp; omega)
      · exact .inl ⟨by simp; omega, empty_of (by omega)⟩
    have k4 : ((k : Int) == 4) = false := by simp; omega
    clear h O4 R3
    rcases hx with ⟨k6, he⟩ | k6
    case' inr =>
      by_cases hs : s.size = 0
      case' pos => have he := empty_of hs
      case' neg => have he := some_of hs
    all_goals
      go_enter Tryd.func32, Tryd.ntmps32
      go_wp2_with (at_builtin; go_must (refine wpList_text rfl _ _ rfl w.heap.size _ 4 _ rfl P4 s rfl (by omega) (by simp) ?_); intro v3 w3 o3 hb3)
      refine bodyPost_ret (v := .tuple #[v3, .int .i64 0]) (by simp [results, Tryd.results32, go_sem]) rfl ⟨_, rfl, ?_, ((Below.refl _ _).alloc (Nat.le_refl _) _).trans hb3⟩
      have hE : keyL k n 0 (txt s) = [k, n / 65536, n / 256 % 256, n % 256] ++ txt s := by simp [keyL, hk, b3, E1]
      have hL : (keyL k n 0 (txt s)).length = 4 + s.size := by rw [hE]; simp [Text.length]; omega
      rw [hL, hE]
      exact o3
end Go.Proofs.YtdgbgdkfoeoppaaDoor.RecW
