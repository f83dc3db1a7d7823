/- The walks of package rec: a place as bytes, where it may be. -/
import Derived.Test.YtdgbgdkfoeoppaaDoorRecKey
import Derived.Test.YtdgbgdkfoeoppaaDoorTextApp
namespace Go.Proofs.YtdgbgdkfoeoppaaDoor.RecW
open Go Go.RowKit Go.Proofs.YtdgbgdkfoeoppaaDoor.Mem Go.Proofs.YtdgbgdkfoeoppaaDoor.RefW Go.Proofs.YtdgbgdkfoeoppaaDoor.Text
set_option linter.unusedVariables false
set_option maxRecDepth 100000

/-- the bytes of a place -/
def keyL (k n i : Nat) (s : List Nat) : List Nat := k :: (b3 n ++ ((if k = 4 then b3 i else []) ++ s))

set_option maxHeartbeats 3200000 in
theorem key_good (k n i : Nat) (s : ByteArray) (w : World) (h : ¬ Bad k n i s) (hl : s.size ≤ 24) :
    Calls Tryd.prog 31 #[P k n i s] w fun e w' => ∃ v, e = .returned (.tuple #[v, .nilIface]) ∧ w'.ownsRow w.heap.size 5 1 v (keyL k n i (txt s)).length (nums .u8 (keyL k n i (txt s))) ∧ Below w.heap.size w w' := by
  unfold Bad at h
  have d1 : decide (0 ≤ (n : Int)) = true := by rw [decide_eq_true_eq]; omega
  have d2 : decide ((n : Int) ≤ 16777215) = true := by rw [decide_eq_true_eq]; omega
  have d3 : decide ((24 : Int) < (s.size : Int)) = false := by rw [decide_eq_false_iff_not]; omega
  have d4 : decide (0 ≤ (i : Int)) = true := by rw [decide_eq_true_eq]; omega
  have d5 : decide ((i : Int) ≤ 16777215) = true := by rw [decide_eq_true_eq]; omega
  have cn := fun w => number_w n w
  have ci := fun w => number_w i w
  rw [d1, d2] at cn
  rw [d4, d5] at ci
  have n1 : n < 16777216 := by omega
  have i1 : i < 16777216 := by omega
  rcases (show k = 4 ∨ k = 3 ∨ k = 1 ∨ k = 2 by omega) with rfl | hk
  · have he := empty_of (s := s) (by omega)
    have hz0 : s.size = 0 := by omega
    clear h
    go_enter Tryd.func31, Tryd.ntmps31
    go_wp2_with (first | (go_at_call 57; (first | refine (cn _).mono ?_ | refine (ci _).mono ?_); rintro e w' ⟨rfl, rfl⟩))
    refine (put_w _ 1 [4] n (w.heap.size + 1) _ (by simpa using own1 (w.alloc (.cells #[.int .i64 4, .int .i64 (n : Int), .int .i64 (i : Int), .string s] 43)) 4) n1 (by decide) (by simp)).mono ?_
    rintro e w1 ⟨v1, rfl, o1, hb1⟩
    obtain ⟨g0, g1, g2, g3⟩ := new4 w (.int .i64 4) (.int .i64 (n : Int)) (.int .i64 (i : Int)) (.string s) 43
    replace g0 := keep hb1 (cell?_alloc_old (.cells #[.int .u8 4] 5) g0) (by omega)
    replace g2 := keep hb1 (cell?_alloc_old (.cells #[.int .u8 4] 5) g2) (by omega)
    replace g3 := keep hb1 (cell?_alloc_old (.cells #[.int .u8 4] 5) g3) (by omega)
    have z1 := hb1.size
    simp at z1
    go_wp2_with fail
    refine (put_w _ _ _ i (w.heap.size + 1) _ o1 i1 (by decide) (by omega)).mono ?_
    rintro e w2 ⟨v2, rfl, o2, hb2⟩
    replace g3 := keep hb2 g3 (by omega)
    have z2 := hb2.size
    have c : Below w.heap.size w w2 := ((((Below.refl _ _).alloc (Nat.le_refl _) _).alloc (by simp) _).trans (hb1.mono (by omega))).trans (hb2.mono (by omega))
    go_wp2_with (at_builtin; go_must (refine wpList_text rfl _ _ rfl w.heap.size v2 _ _ rfl (ownsRow_base o2 (by omega)) s rfl (by omega) (by omega) ?_); intro v3 w3 o3 hb3)
    refine bodyPost_ret (v := .tuple #[v3, .nilIface]) (by simp [results, Tryd.results31, go_sem]) rfl ⟨_, rfl, ?_, c.trans hb3⟩
    have e1 : txt s = [] := List.eq_nil_of_length_eq_zero (by rw [Text.length]; exact hz0)
    rw [e1, hz0] at o3
    simpa [keyL, e1, b3] using o3
  · have hi : i = 0 := by omega
    subst hi
    have hx : (((k : Int) != 3) = true ∧ s.toList.isEmpty = true) ∨ k = 3 := by
      by_cases h3 : k = 3
      · exact .inr h3
      · exact .inl ⟨by simp; omega, empty_of (by omega)⟩
    have k1 : decide ((k : Int) < 1) = false := by rw [decide_eq_false_iff_not]; omega
    have k2 : decide (4 < (k : Int)) = false := by rw [decide_eq_false_iff_not]; omega
    have k3 : ((k : Int) != 4) = true := by simp; omega
    have k4 : ((k : Int) == 4) = false := by simp; omega
    have k5 : IntKind.u8.wrap (k : Int) = (k : Int) := wraps_u8 _ (by omega) (by omega)
    have hk4 : k ≠ 4 := by omega
    clear h hk
    rcases hx with ⟨k6, he⟩ | rfl
    · go_enter Tryd.func31, Tryd.ntmps31
      go_wp2_with (first | (go_at_call 57; (first | refine (cn _).mono ?_ | refine (ci _).mono ?_); rintro e w' ⟨rfl, rfl⟩))
      refine (put_w _ 1 [k] n (w.heap.size + 1) _ (by simpa using own1 (w.alloc (.cells #[.int .i64 (k : Int), .int .i64 (n : Int), .int .i64 0, .string s] 43)) k) n1 (by decide) (by simp)).mono ?_
      rintro e w1 ⟨v1, rfl, o1, hb1⟩
      obtain ⟨g0, g1, g2, g3⟩ := new4 w (.int .i64 (k : Int)) (.int .i64 (n : Int)) (.int .i64 0) (.string s) 43
      replace g0 := keep hb1 (cell?_alloc_old (.cells #[.int .u8 (k : Int)] 5) g0) (by omega)
      replace g3 := keep hb1 (cell?_alloc_old (.cells #[.int .u8 (k : Int)] 5) g3) (by omega)
      have z1 := hb1.size
      simp at z1
      have c : Below w.heap.size w w1 := (((Below.refl _ _).alloc (Nat.le_refl _) _).alloc (by simp) _).trans (hb1.mono (by omega))
      go_wp2_with (at_builtin; go_must (refine wpList_text rfl _ _ rfl w.heap.size v1 _ _ rfl (ownsRow_base o1 (by omega)) s rfl (by omega) (by omega) ?_); intro v3 w3 o3 hb3)
      refine bodyPost_ret (v := .tuple #[v3, .nilIface]) (by simp [results, Tryd.results31, go_sem]) rfl ⟨_, rfl, ?_, c.trans hb3⟩
      have hE : keyL k n 0 (txt s) = [k] ++ b3 n ++ txt s := by simp [keyL, hk4]
      have hL : (keyL k n 0 (txt s)).length = 1 + 3 + s.size := by rw [hE]; simp [b3, Text.length]; omega
      rw [hL, hE]
      exact o3
    · go_enter Tryd.func31, Tryd.ntmps31
      go_wp2_with (first | (go_at_call 57; (first | refine (cn _).mono ?_ | refine (ci _).mono ?_); rintro e w' ⟨rfl, rfl⟩))
      refine (put_w _ 1 [3] n (w.heap.size + 1) _ (by simpa using own1 (w.alloc (.cells #[.int .i64 3, .int .i64 (n : Int), .int .i64 0, .string s] 43)) 3) n1 (by decide) (by simp)).mono ?_
      rintro e w1 ⟨v1, rfl, o1, hb1⟩
      obtain ⟨g0, g1, g2, g3⟩ := new4 w (.int .i64 3) (.int .i64 (n : Int)) (.int .i64 0) (.string s) 43
      replace g0 := keep hb1 (cell?_alloc_old (.cells #[.int .u8 3] 5) g0) (by omega)
      replace g3 := keep hb1 (cell?_alloc_old (.cells #[.int .u8 3] 5) g3) (by omega)
      have z1 := hb1.size
      simp at z1
      have c : Below w.heap.size w w1 := (((Below.refl _ _).alloc (Nat.le_refl _) _).alloc (by simp) _).trans (hb1.mono (by omega))
      go_wp2_with (at_builtin; go_must (refine wpList_text rfl _ _ rfl w.heap.size v1 _ _ rfl (ownsRow_base o1 (by omega)) s rfl (by omega) (by omega) ?_); intro v3 w3 o3 hb3)
      refine bodyPost_ret (v := .tuple #[v3, .nilIface]) (by simp [results, Tryd.results31, go_sem]) rfl ⟨_, rfl, ?_, c.trans hb3⟩
      have hE : keyL 3 n 0 (txt s) = [3] ++ b3 n ++ txt s := by simp [keyL, hk4]
      have hL : (keyL 3 n 0 (txt s)).length = 1 + 3 + s.size := by rw [hE]; simp [b3, Text.length]; omega
      rw [hL, hE]
      exact o3
end Go.Proofs.YtdgbgdkfoeoppaaDoor.RecW
