/- More walks of package span: Blocks, Cut, has, Whole. -/
import Derived.Test.YtdgbgdkfoeoppaaSpanWalk
import Derived.Test.YtdgbgdkfoeoppaaRefWalk
namespace Go.Proofs.Ytdgbgdkfoeoppaa.SpanW
open Go Go.RowKit Go.Proofs.Ytdgbgdkfoeoppaa.Mem Go.Proofs.Ytdgbgdkfoeoppaa.RefW
set_option linter.unusedVariables false
set_option maxRecDepth 100000

theorem blocks_w (n : Nat) (w : World) (h : n ≤ 1000000) :
    Calls Try.prog 27 #[.int .i64 n] w fun e w' => e = .returned (.int .i64 (Span.blocks n)) ∧ w = w' := by
  have HB := hid (show Span.blocks n = if n = 0 then 0 else (n - 1) / 256 + 1 from rfl)
  rcases Nat.eq_zero_or_pos n with h0 | h0
  · subst h0
    go_enter Try.func27, Try.ntmps27
    go_wp2
    go_ret
    exact ⟨rfl, rfl⟩
  · have hd : decide ((n : Int) ≤ 0) = false := by rw [decide_eq_false_iff_not]; omega
    go_enter Try.func27, Try.ntmps27
    go_wp2
    go_ret
    exact ⟨ret_int (by rw [HB.out, if_neg (by omega)]; omega), rfl⟩
theorem blocks_neg (w : World) :
    Calls Try.prog 27 #[.int .i64 (-5)] w fun e w' => e = .returned (.int .i64 0) ∧ w = w' := by
  go_enter Try.func27, Try.ntmps27
  go_wp2
  go_ret
  exact ⟨rfl, rfl⟩

set_option maxHeartbeats 800000 in
theorem has_w (i n : Nat) (w : World) (hi : i ≤ 1000000) (h : n ≤ 1000000) :
    Calls Try.prog 33 #[.int .i64 i, .int .i64 n] w fun e w' => e = .returned (.int .i64 (Span.has i n)) ∧ w' = w := by
  have HB := hid (show Span.has i n = if n / 256 < i then 0 else if i = n / 256 then n % 256 else 256 from rfl)
  have d1 : decide ((n : Int) % 256 < 0) = false := by rw [decide_eq_false_iff_not]; omega
  rcases Nat.lt_trichotomy (n / 256) i with h1 | h1 | h1
  · have d2 : decide ((n : Int) / 256 < (i : Int)) = true := by rw [decide_eq_true_eq]; omega
    have d3 : (n : Int) / 256 < (i : Int) := by omega
    go_enter Try.func33, Try.ntmps33
    go_wp2
    go_ret
    exact ⟨ret_int (by rw [HB.out, if_pos h1]; rfl), rfl⟩
  · have d2 : decide ((n : Int) / 256 < (i : Int)) = false := by rw [decide_eq_false_iff_not]; omega
    have d3 : ((i : Int) == (n : Int) / 256) = true := by rw [beq_iff_eq]; omega
    go_enter Try.func33, Try.ntmps33
    go_wp2
    go_ret
    exact ⟨ret_int (by rw [HB.out, if_neg (by omega), if_pos h1.symm]; omega), rfl⟩
  · have d2 : decide ((n : Int) / 256 < (i : Int)) = false := by rw [decide_eq_false_iff_not]; omega
    have d3 : ((i : Int) == (n : Int) / 256) = false := by rw [beq_eq_false_iff_ne]; omega
    go_enter Try.func33, Try.ntmps33
    go_wp2
    go_ret
    exact ⟨ret_int (by rw [HB.out, if_neg (by omega), if_neg (by omega)]; rfl), rfl⟩

set_option maxHeartbeats 800000 in
theorem whole_w (i t n : Nat) (w : World) (hi : i ≤ 1000000) (h : n ≤ 1000000) (ht : t ≤ 1000000) :
    Calls Try.prog 29 #[.agg #[.int .i64 i, .int .i64 0, .int .i64 t], .int .i64 n] w fun e w' => e = .returned (.bool (decide (Span.has i n ≤ t))) ∧ Below w.heap.size w w' := by
  go_enter Try.func29, Try.ntmps29
  go_wp2_with fail
  go_quiet ((go_at_call 33; exact Calls.quiet_of_same (has_w _ _ _ hi h)))
  go_wp2
  go_ret
  exact ⟨rfl, below_drewN ((Below.refl _ _).alloc (Nat.le_refl _) _) _⟩
theorem whole_at (x z : Int) (i t n : Nat) (w : World) (hx : x = (i : Int)) (hz : z = (t : Int)) (hi : i ≤ 1000000) (h : n ≤ 1000000) (ht : t ≤ 1000000) :
    Calls Try.prog 29 #[.agg #[.int .i64 x, .int .i64 0, .int .i64 z], .int .i64 n] w fun e w' => e = .returned (.bool (decide (Span.has i n ≤ t))) ∧ Below w.heap.size w w' := by
  subst hx; subst hz; exact whole_w i t n w hi h ht
theorem whole_one (i t : Int) (n : Nat) (w : World) :
    Calls Try.prog 29 #[.agg #[.int .i64 i, .int .i64 1, .int .i64 t], .int .i64 n] w fun e w' => e = .returned (.bool false) ∧ Below w.heap.size w w' := by
  go_enter Try.func29, Try.ntmps29
  go_wp2_with fail
  go_quiet (fail)
  go_wp2
  go_ret
  exact ⟨rfl, below_drewN ((Below.refl _ _).alloc (Nat.le_refl _) _) _⟩

set_option maxHeartbeats 800000 in
theorem cut_w (a : Option Addr) (n cap : Nat) (l : List Nat) (p s : Nat) (w : World) (hr : Nums .u8 w a n cap l) (hn : n ≤ 1000000) (hp : p ≤ 1000000) (hs : s ≤ 1000000) :
    Calls Try.prog 28 #[.slice a n cap, .int .i64 p, .int .i64 s] w fun e w' => ∃ v, e = .returned v ∧ w'.ownsRow w.heap.size 5 1 v (min n (s - p)) (nums .u8 (l.take (min n (s - p)))) ∧ Below w.heap.size w w' := by
  have hbd := hr.bound
  obtain ⟨b1, b2⟩ := hbd
  rcases Nat.lt_or_ge p s with h | h
  · have d1 : decide (s ≤ p) = false := by rw [decide_eq_false_iff_not]; omega
    have d0 : decide ((p : Int) < 0) = false := by rw [decide_eq_false_iff_not]; omega
    rcases Nat.lt_or_ge (s - p) n with h1 | h1
    · have hm := hid (show min n (s - p) = s - p by omega)
      rw [hm.out]
      obtain ⟨q, rfl⟩ : ∃ q, s = p + q := ⟨s - p, by omega⟩
      rw [Nat.add_sub_cancel_left] at *
      have hr' := hr.take (m := q) (by omega)
      go_enter Try.func28, Try.ntmps28
      go_wp2_with fail
      refine (clone_w a q cap _ w hr' (by omega)).mono ?_
      rintro e w1 ⟨v1, rfl, own1, hb1⟩
      go_wp2_with fail
      go_ret
      exact ⟨_, rfl, own1, hb1⟩
    · have hm := hid (show min n (s - p) = n by omega)
      rw [hm.out, List.take_of_length_le (by rw [hr.len]; exact Nat.le_refl _)]
      obtain ⟨q, rfl⟩ : ∃ q, s = p + q := ⟨s - p, by omega⟩
      rw [Nat.add_sub_cancel_left] at *
      go_enter Try.func28, Try.ntmps28
      go_wp2_with fail
      refine (clone_w a n cap _ w hr (by omega)).mono ?_
      rintro e w1 ⟨v1, rfl, own1, hb1⟩
      go_wp2_with fail
      go_ret
      exact ⟨_, rfl, own1, hb1⟩
  · have d1 : decide (s ≤ p) = true := by rw [decide_eq_true_eq]; omega
    have d0 : decide ((p : Int) < 0) = false := by rw [decide_eq_false_iff_not]; omega
    have hm : min n (s - p) = 0 := by omega
    rw [hm, List.take_zero]
    clear hm
    go_enter Try.func28, Try.ntmps28
    go_wp2
    go_ret
    exact ⟨_, rfl, World.ownsRow_nil _ _ _ _, Below.refl _ _⟩
end Go.Proofs.Ytdgbgdkfoeoppaa.SpanW
