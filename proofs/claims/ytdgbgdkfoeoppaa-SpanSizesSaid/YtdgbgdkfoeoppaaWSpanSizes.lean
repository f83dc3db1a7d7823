/- The walk of SpanSizes. -/
import Derived.Test.YtdgbgdkfoeoppaaSpanMore
import Derived.Test.YtdgbgdkfoeoppaaSpanFirst
import Derived.Test.YtdgbgdkfoeoppaaNumWalk
namespace Go.Proofs.Ytdgbgdkfoeoppaa.spanSizes
open Go Go.RowKit Go.Proofs.Ytdgbgdkfoeoppaa.Mem Go.Proofs.Ytdgbgdkfoeoppaa.RefW
set_option linter.unusedVariables false
set_option maxRecDepth 100000

set_option maxHeartbeats 3200000 in
theorem done (a1 a0 : Int) (ba : Option Addr) (n cap0 : Nat) (l : List Nat) (w : World)
    (h0 : Nums .u8 w ba n cap0 l) (i0 : -9223372036854775808 ≤ a0 ∧ a0 ≤ 9223372036854775807) (i1 : -9223372036854775808 ≤ a1 ∧ a1 ≤ 9223372036854775807) (n0 : n ≤ 600) :
    Calls Try.prog 11 #[.int .i64 a0, .int .i64 a1, .slice ba n cap0] w fun e w' => e = .returned (.bool true) ∧ Below w.heap.size w w' := by
  have hsm := Int.emod_nonneg a0 (b := 20000) (by omega)
  have hsl := Int.emod_lt_of_pos a0 (b := 20000) (by omega)
  obtain ⟨s, hs⟩ := Int.eq_ofNat_of_zero_le hsm
  have HS := hid hs
  have hpm := Int.emod_nonneg a1 (b := 20000) (by omega)
  have hpl := Int.emod_lt_of_pos a1 (b := 20000) (by omega)
  obtain ⟨p, hp⟩ := Int.eq_ofNat_of_zero_le hpm
  have HP := hid hp
  have hsn : s < 20000 := by omega
  have hpn : p < 20000 := by omega
  obtain ⟨i00, i01⟩ := i0
  obtain ⟨i10, i11⟩ := i1
  clear hs hp hsm hsl hpm hpl
  go_enter Try.func11, Try.ntmps11
  go_wp2_with fail
  refine (SpanW.first_w _).mono ?_
  rintro e w1 ⟨rfl, hb1⟩
  have k1 := h0.below hb1
  clear h0
  have z1 := hb1.size
  go_wp2_with fail
  refine (NumW.number_w a0 20000 _ (by omega) (by omega) i00 i01).mono ?_
  rintro e w' ⟨rfl, rfl⟩
  rw [HS.out]
  clear HS i00 i01
  go_wp2_with fail
  refine (NumW.number_w a1 20000 _ (by omega) (by omega) i10 i11).mono ?_
  rintro e w' ⟨rfl, rfl⟩
  rw [HP.out]
  clear HP i10 i11
  go_wp2_with fail
  refine (SpanW.blocks_w s _ (by omega)).mono ?_
  rintro e w' ⟨rfl, rfl⟩
  have hB1 := Span.blocks_holds s
  have hB2 := hid (Span.blocks_fewer s)
  have hB3 := Span.blocks_le s
  have hB4 := hid (Span.has_last s)
  have hB0 := hid (show Span.blocks s = 0 → s = 0 by intro h; rw [h] at hB1; omega)
  have hB5 := hid (show s = 0 → Span.blocks s = 0 by intro h; subst h; rfl)
  generalize Span.blocks s = m at *
  go_wp2_with fail
  refine (SpanW.cut_w ba n cap0 l p s w1 k1 (by omega) (by omega) (by omega)).mono ?_
  rintro e w2 ⟨v2, rfl, own2, hb2⟩
  have z2 := hb2.size
  obtain ⟨ca, cc, rfl, hc⟩ := ownsRow_slice own2
  clear own2
  have k2 := k1.below hb2
  have hc : Nums .u8 w2 ca (min n (s - p)) cc (l.take (min n (s - p))) := hc
  have k2t := k2.take (m := min n (s - p)) (by omega)
  obtain ⟨c, hcm⟩ : ∃ c, c = min n (s - p) := ⟨_, rfl⟩
  rw [← hcm] at hc k2t ⊢
  have hcn : c ≤ n := by omega
  have HCM := hid hcm
  clear hcm
  have hbn := k2.bound
  obtain ⟨hbn1, hbn2⟩ := hbn
  have d1 : decide ((m : Int) * 256 < (s : Int)) = false := by rw [decide_eq_false_iff_not]; omega
  have d1' : ¬ (m : Int) * 256 < (s : Int) := by omega
  have hcase : (s ≤ p ∧ c = 0) ∨ (p < s ∧ n ≤ s - p ∧ c = n) ∨ (p < s ∧ s - p < n ∧ c = s - p) := by have := HCM.out; omega
  have hsame := hid (RefW.same_w ca c cc (l.take c) ba c cap0 (l.take c) w2 hc k2t)
  have hb := hb1.trans (hb2.mono z1)
  clear hc k2 k2t HCM hB1 hb1 hb2
  have hcf : ((c : Int) != max 0 (min (n : Int) ((s : Int) - (p : Int)))) = false := by rw [bne_eq_false_iff_eq]; omega
  rcases Nat.eq_zero_or_pos m with h0 | h0
  case' inl =>
    obtain rfl := hB0.out h0
    subst h0
  case' inr =>
    have g1 : decide ((s : Int) ≤ ((m : Int) - 1) * 256) = false := by rw [decide_eq_false_iff_not]; have := hB2.out h0; omega
    have g2 : ((m : Int) == 0) = false := by rw [beq_eq_false_iff_ne]; omega
    have g3 : ¬ (s : Int) ≤ ((m : Int) - 1) * 256 := by have := hB2.out h0; omega
  all_goals
    rcases hcase with ⟨e1, e2⟩ | ⟨e1, e2, e3⟩ | ⟨e1, e2, e3⟩
    all_goals try omega
  all_goals
    clear hcf
    first
      | (have f1 : (c : Int) ≤ 0 := by omega
         obtain rfl : c = 0 := by omega
         clear f1)
      | skip
    first
      | (have f3 : (c : Int) = (n : Int) := by omega
         have f3' : c = n := by omega
         clear f3
         subst f3')
      | skip
  all_goals
    try have f1 : (s : Int) - (p : Int) ≤ 0 := by omega
    try have f2 : (s : Int) - (p : Int) ≤ (n : Int) := by omega
    try have f3 : (c : Int) ≤ (s : Int) - (p : Int) := by omega
    try have f4 : (s : Int) - (p : Int) < (n : Int) := by omega
    try have f5 : 0 < (s : Int) - (p : Int) := by omega
    try have f6 : ((c : Int) != (s : Int) - (p : Int)) = false := by rw [bne_eq_false_iff_eq]; omega
    try (have E3 := hid e3; clear e3)
    clear e1
    try clear e2
    go_wp2_with fail
    all_goals
      refine hsame.out.mono ?_
      rintro e w3 ⟨rfl, hb3⟩
      have hbb := hb.trans (hb3.mono (by omega))
      clear hb hsame
      go_wp2_with fail
      first
        | (refine (SpanW.blocks_neg _).mono ?_
           rintro e w' ⟨rfl, rfl⟩
           go_wp2_with fail
           go_ret
           exact ⟨rfl, hbb⟩)
        | (have hlast := hB4.out
           have hfew := hB2.out h0
           refine (SpanW.whole_at _ _ (m - 1) (s - (m - 1) * 256) s _ (by omega) (by omega) (by omega) (by omega) (by omega)).mono ?_
           rintro e w4 ⟨rfl, hb4⟩
           have hbb := hbb.trans (hb4.mono (by have := hbb.size; omega))
           rw [hlast (by omega)]
           have t1 : decide (s - (m - 1) * 256 ≤ s - (m - 1) * 256) = true := by simp
           rw [t1]
           clear hlast hfew t1
           go_wp2_with fail
           have hlast := hB4.out
           have hfew := hB2.out h0
           refine (SpanW.whole_at _ _ (m - 1) (s - (m - 1) * 256 - 1) s _ (by omega) (by omega) (by omega) (by omega) (by omega)).mono ?_
           rintro e w5 ⟨rfl, hb5⟩
           have hbb := hbb.trans (hb5.mono (by have := hbb.size; omega))
           rw [hlast (by omega)]
           have t1 : decide (s - (m - 1) * 256 ≤ s - (m - 1) * 256 - 1) = false := by rw [decide_eq_false_iff_not]; omega
           rw [t1]
           clear hlast hfew t1
           go_wp2_with fail
           refine (SpanW.whole_one _ _ _ _).mono ?_
           rintro e w6 ⟨rfl, hb6⟩
           have hbb := hbb.trans (hb6.mono (by have := hbb.size; omega))
           go_wp2_with fail
           go_ret
           exact ⟨rfl, hbb⟩)

theorem long (a0 a1 : Int) (ba : Option Addr) (n cap0 : Nat) (w : World) (hn : n ≤ 9223372036854775807) (h : 600 < n) :
    Calls Try.prog 11 #[.int .i64 a0, .int .i64 a1, .slice ba n cap0] w fun e w' => e = .returned (.bool true) ∧ Below w.heap.size w w' := by
  go_enter Try.func11, Try.ntmps11
  go_wp2_with fail
  refine (SpanW.first_w _).mono ?_
  rintro e w1 ⟨rfl, hb1⟩
  go_wp2_with fail
  go_ret
  exact ⟨rfl, hb1⟩

theorem walk (a0 : Int) (a1 : Int) (a2 : Option Addr) (len2 cap2 : Nat) (z2 : List Int) (w : World) (w0 : (Lit.int .i64 a0).wf = true) (w1 : (Lit.int .i64 a1).wf = true) (w2 : IsRow .u8 w a2 len2 cap2 z2) :
    Calls Try.prog 11 #[.int .i64 a0, .int .i64 a1, .slice a2 len2 cap2] w fun e w' => e = .returned (.bool true) ∧ Below w.heap.size w w' := by
  obtain ⟨l, h2, _⟩ := nums_of rfl w2
  have c0 := h2.bound
  rcases Nat.lt_or_ge 600 len2 with h | h
  · exact long a0 a1 a2 len2 cap2 w (by omega) h
  · exact done a1 a0 a2 len2 cap2 l w h2 (int_of w0) (int_of w1) h
end Go.Proofs.Ytdgbgdkfoeoppaa.spanSizes
