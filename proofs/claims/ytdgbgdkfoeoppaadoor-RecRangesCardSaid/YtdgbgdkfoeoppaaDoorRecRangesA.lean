/- The walk of RecRanges where there is no key. -/
import Derived.Test.YtdgbgdkfoeoppaaDoorRecAll
import Derived.Test.YtdgbgdkfoeoppaaDoorZeros
namespace Go.Proofs.YtdgbgdkfoeoppaaDoor.recRanges
open Go Go.RowKit Go.Proofs.YtdgbgdkfoeoppaaDoor.Mem Go.Proofs.YtdgbgdkfoeoppaaDoor.RefW Go.Proofs.YtdgbgdkfoeoppaaDoor.Text Go.Proofs.YtdgbgdkfoeoppaaDoor.RecW
set_option linter.unusedVariables false
set_option maxRecDepth 100000

theorem over (k n i : Int) (s : ByteArray) (w : World) (h : 40 < s.size) :
    Calls Tryd.prog 8 #[.int .i64 k, .int .i64 n, .int .i64 i, .string s] w fun e w' => e = .returned (.bool true) ∧ Below w.heap.size w w' := by
  have d1 : decide ((40 : Int) < (s.size : Int)) = true := by rw [decide_eq_true_eq]; omega
  go_enter Tryd.func8, Tryd.ntmps8
  go_wp2_with fail
  refine (first_w _).mono ?_
  rintro e w1 ⟨rfl, hb1⟩
  go_wp2_with fail
  go_ret
  exact ⟨rfl, hb1⟩

set_option maxHeartbeats 3200000 in
theorem bad (k n i : Int) (s : ByteArray) (bs : List Addr) (w : World) (hB : SeeW.Bs w bs) (h : Bad k n i s) (hs : s.size ≤ 40) :
    Calls Tryd.prog 8 #[.int .i64 k, .int .i64 n, .int .i64 i, .string s] w fun e w' => e = .returned (.bool true) ∧ Below w.heap.size w w' := by
  have d1 : decide ((40 : Int) < (s.size : Int)) = false := by rw [decide_eq_false_iff_not]; omega
  have HH := hid h
  have ck := fun E w hA => key_bad k n i s E w hA h
  clear h
  by_cases hz : s.size = 0
  case' pos => have he := empty_of hz
  case' neg => have he := some_of hz
  all_goals
    go_enter Tryd.func8, Tryd.ntmps8
    go_wp2_with fail
    refine (first_w _).mono ?_
    rintro e w1 ⟨rfl, hb1⟩
    replace hB := hB.below hb1
    go_wp2_with fail
    obtain ⟨E, hE, hA⟩ := hB.2.2 2 _ rfl
    refine (ck E _ hA).mono ?_
    rintro e w2 ⟨rfl, hb2⟩
    replace hB := hB.below hb2
    have z1 := hb1.size
    clear hA ck
    go_wp2_with fail
    all_goals first | (exfalso; have h := HH.out; unfold Bad at h; (try simp only [Bool.not_eq_true', Bool.not_eq_false', ne_eq, beq_iff_eq, beq_eq_false_iff_ne] at *); omega) | skip
    all_goals
      refine (SeeW.is_w bs _ hB 2 E hE 103).mono ?_
      rintro e w3 ⟨rfl, hb3⟩
      rw [show (101 + ((2 : Nat) : Int) == 103) = true by decide]
      go_wp2_with fail
      go_ret
      exact ⟨rfl, (hb1.trans (hb2.mono z1)).trans (hb3.mono (hb1.trans (hb2.mono z1)).size)⟩

set_option maxHeartbeats 3200000 in
theorem longn (k n i : Int) (s : ByteArray) (bs : List Addr) (w : World) (hB : SeeW.Bs w bs) (h : ¬ Bad k n i s) (h1 : 24 < s.size) (hs : s.size ≤ 40) :
    Calls Tryd.prog 8 #[.int .i64 k, .int .i64 n, .int .i64 i, .string s] w fun e w' => e = .returned (.bool true) ∧ Below w.heap.size w w' := by
  have d1 : decide ((40 : Int) < (s.size : Int)) = false := by rw [decide_eq_false_iff_not]; omega
  have d2 : decide ((24 : Int) < (s.size : Int)) = true := by rw [decide_eq_true_eq]; omega
  have ck := fun E w hA => key_long k n i s E w hA h h1
  have he := some_of (s := s) (by omega)
  unfold Bad at h
  obtain rfl : k = 3 := by omega
  obtain rfl : i = 0 := by omega
  have d3 : decide (0 ≤ n) = true := by rw [decide_eq_true_eq]; omega
  have d4 : decide (n < 16777216) = true := by rw [decide_eq_true_eq]; omega
  clear h
  go_enter Tryd.func8, Tryd.ntmps8
  go_wp2_with fail
  refine (first_w _).mono ?_
  rintro e w1 ⟨rfl, hb1⟩
  replace hB := hB.below hb1
  go_wp2_with fail
  obtain ⟨E, hE, hA⟩ := hB.2.2 14 _ rfl
  refine (ck E _ hA).mono ?_
  rintro e w2 ⟨rfl, hb2⟩
  replace hB := hB.below hb2
  have z1 := hb1.size
  clear hA ck
  go_wp2_with fail
  refine (SeeW.is_w bs _ hB 14 E hE 115).mono ?_
  rintro e w3 ⟨rfl, hb3⟩
  rw [show (101 + ((14 : Nat) : Int) == 115) = true by decide]
  go_wp2_with fail
  go_ret
  exact ⟨rfl, (hb1.trans (hb2.mono z1)).trans (hb3.mono (hb1.trans (hb2.mono z1)).size)⟩

theorem keyL_lt (k n i : Nat) (s : ByteArray) (hk : k < 256) : ∀ x ∈ keyL k n i (txt s), x < 256 := by
  intro x hx
  simp only [keyL, b3, List.mem_cons, List.mem_append, List.not_mem_nil, or_false] at hx
  rcases hx with rfl | (rfl | rfl | rfl) | hx | hx
  · exact hk
  · omega
  · omega
  · omega
  · split at hx
    · simp at hx; omega
    · simp at hx
  · exact Text.lt s x hx
theorem keyL_three (k n i : Nat) (l : List Nat) : readL ((keyL k n i l).take 3) = (101, 0, 0, 0, []) := rfl
theorem keyL_more (k n i : Nat) (l : List Nat) (h1 : 1 ≤ k) (h4 : k ≤ 4) : readL (keyL k n i l ++ List.replicate 25 0) = (102, 0, 0, 0, []) := by
  have e : keyL k n i l ++ List.replicate 25 0 = k :: (n / 65536 % 256) :: (n / 256 % 256) :: (n % 256) :: (((if k = 4 then b3 i else []) ++ l) ++ List.replicate 25 0) := by simp [keyL, b3]
  rw [e]
  simp only [readL]
  rw [if_neg (by omega)]
  by_cases k4 : k = 4
  · rw [if_pos k4, if_pos k4, if_neg (by simp; omega), if_pos (by simp [b3])]
  · rw [if_neg k4]
    by_cases k3 : k = 3
    · rw [if_pos k3, if_neg k4, if_pos (by simp)]
    · rw [if_neg k3, if_pos (by simp; omega)]
theorem and_255 (n : Nat) (hn : n < 16777216) : bits .and .i64 (n : Int) 255 = (n : Int) % 256 := by
  have := bits_mask .i64 62 (by decide) (fun n h0 h1 => IntWalk.i64_in _ (by omega)) 8 (by decide) (n : Int) (by omega) (by omega)
  simpa using this
end Go.Proofs.YtdgbgdkfoeoppaaDoor.recRanges
