/- The walk of WireRanges. -/
import Derived.Test.YtdgbgdkfoeoppaaDoorWireFirst
import Derived.Test.YtdgbgdkfoeoppaaDoorWireSee
import Derived.Test.YtdgbgdkfoeoppaaDoorWireErr
namespace Go.Proofs.YtdgbgdkfoeoppaaDoor.wireRanges
open Go Go.RowKit Go.Proofs.YtdgbgdkfoeoppaaDoor.Mem Go.Proofs.YtdgbgdkfoeoppaaDoor.RefW Go.Proofs.YtdgbgdkfoeoppaaDoor.Text Go.Proofs.YtdgbgdkfoeoppaaDoor.Wire
set_option linter.unusedVariables false
set_option maxRecDepth 100000

theorem over (n lo hi : Int) (a : Option Addr) (m cap : Nat) (w : World) (h : 50 < m) :
    Calls Tryd.prog 12 #[.int .i64 n, .int .i64 lo, .int .i64 hi, .slice a m cap] w fun e w' => e = .returned (.bool true) ∧ Below w.heap.size w w' := by
  have d1 : decide ((50 : Int) < (m : Int)) = true := by rw [decide_eq_true_eq]; omega
  go_enter Tryd.func12, Tryd.ntmps12
  go_wp2_with fail
  refine (first_w _).mono ?_
  rintro e w1 ⟨rfl, hb1⟩
  go_wp2_with fail
  go_ret
  exact ⟨rfl, hb1⟩

set_option maxHeartbeats 6400000 in
theorem good (n lo hi : Int) (a : Option Addr) (m cap : Nat) (l : List Nat) (bs : List Addr) (w : World) (hB : SeeW.Bs w bs) (hl : Nums .u8 w a m cap l) (hX : ∀ x ∈ l, x < 256) (hm : m ≤ 50) (hn : -9223372036854775808 ≤ n ∧ n ≤ 9223372036854775807) :
    Calls Tryd.prog 12 #[.int .i64 n, .int .i64 lo, .int .i64 hi, .slice a m cap] w fun e w' => e = .returned (.bool true) ∧ Below w.heap.size w w' := by
  have zn := zig_lt hn
  have ln := enc_ten zn
  have d1 : decide ((50 : Int) < (m : Int)) = false := by rw [decide_eq_false_iff_not]; omega
  have cn := fun w => puts_w none 0 0 [] n w (Nums.nil _ _) hn (by decide)
  have HZ := hid (zag_zig n)
  have HD := hid (show dec 0 0 ((enc (zig n) ++ l).drop 0) = .num (zig n) (enc (zig n)).length by
    rw [List.drop_zero, dec_enc (zig n) 0 0 l (.inl rfl) (by simpa using zn) (by decide)]
    simp)
  have hE := enc_byte (zig n)
  have hY : ∀ q ∈ enc (zig n) ++ l, q < 256 := by
    intro q hq
    rcases List.mem_append.1 hq with hq | hq
    · exact hE q hq
    · exact hX q hq
  simp only [List.nil_append, Nat.zero_add] at cn
  generalize enc (zig n) = x at *
  generalize zig n = z at *
  clear hE hX
  go_enter Tryd.func12, Tryd.ntmps12
  go_wp2_with fail
  refine (first_w _).mono ?_
  rintro e w1 ⟨rfl, c1⟩
  go_wp2_with fail
  refine (cn _).mono ?_
  rintro e w2 ⟨v, rfl, hv, hb2⟩
  obtain ⟨xa, xc, rfl, hx⟩ := ownsRow_slice hv
  have hx : Nums .u8 w2 xa x.length xc x := hx
  replace c1 := c1.trans (hb2.mono c1.size)
  clear hv hb2 cn
  go_wp2_with fail
  refine (bytes_w xa x.length xc x _ hx (by omega)).mono ?_
  rintro e w3 ⟨v, rfl, hv, hb3⟩
  have hl3 := hl.below (c1.trans (hb3.mono c1.size))
  have z3 := hb3.size
  go_wp2_with (at_builtin; go_must (refine wpList_app elU8 rfl _ _ rfl w2.heap.size v x.length _ rfl hv a m cap _ rfl hl3 (nums_oneCell _ _) (by unfold maxLen; omega) (by omega) z3 ?_); intro v4 w4 o4 hb4 _)
  obtain ⟨ra, rc, rfl, hr4⟩ := ownsRow_slice o4
  have hr4 : Nums .u8 w4 ra (x.length + m) rc (x ++ l) := by
    unfold Nums
    rw [show nums .u8 (x ++ l) = nums .u8 x ++ nums .u8 l by simp [nums]]; exact hr4
  replace c1 := c1.trans ((hb3.trans hb4).mono c1.size)
  clear hv hb3 hb4 o4 hl3 z3 hx
  refine (new_w ra (x.length + m) rc (x ++ l) _ hr4 hY (by omega)).mono ?_
  rintro e w5 ⟨⟨G, ba, bc, rfl, hG, hRd⟩, hb5⟩
  have hGw := Nat.le_trans c1.size hG
  replace c1 := c1.trans (hb5.mono c1.size)
  obtain ⟨E0, hE0, hA0⟩ := (hB.below c1).2.2 0 _ rfl
  obtain ⟨E1, hE1, hA1⟩ := (hB.below c1).2.2 1 _ rfl
  obtain ⟨E2, hE2, hA2⟩ := (hB.below c1).2.2 2 _ rfl
  clear hb5 hr4 hG
  go_wp2_with fail
  by_cases hin : lo ≤ n ∧ n ≤ hi
  · have e1 : decide (lo ≤ n) = true := by rw [decide_eq_true_eq]; omega
    have e2 : decide (n ≤ hi) = true := by rw [decide_eq_true_eq]; omega
    refine (num_ok G ba _ bc _ 0 z x.length lo hi E0 E1 _ hRd hA0 hA1 HD.out (by rw [HZ.out]; exact hin.1) (by rw [HZ.out]; exact hin.2)).mono ?_
    rw [HZ.out]
    rintro e w6 ⟨rfl, hR6, hG6⟩
    replace c1 := c1.trans (on_below hG6 hGw c1.size)
    rw [Nat.zero_add] at hR6
    clear hRd hA0 hA1 hA2 hG6
    go_wp2_with fail
    refine (err_w G ba _ bc _ _ _ _ hR6).mono ?_
    rintro e w7 ⟨rfl, hb7⟩
    have hR7 := hR6.below hb7
    replace c1 := c1.trans (hb7.mono c1.size)
    go_wp2_with fail
    refine (at_w G ba _ bc _ _ _ _ hR7).mono ?_
    rintro e w8 ⟨rfl, hb8⟩
    have hR8 := hR7.below hb8
    replace c1 := c1.trans (hb8.mono c1.size)
    go_wp2_with fail
    refine (left_w G ba _ bc _ _ _ _ hR8).mono ?_
    rintro e w9 ⟨rfl, hb9⟩
    replace c1 := c1.trans (hb9.mono c1.size)
    rw [Nat.add_sub_cancel_left]
    go_wp2_with fail
    go_ret
    exact ⟨ret_bool (by simp), c1⟩
  · have e12 : decide (lo ≤ n) = false ∨ (decide (lo ≤ n) = true ∧ decide (n ≤ hi) = false) := by
      by_cases e : lo ≤ n
      · exact .inr ⟨by rw [decide_eq_true_eq]; omega, by rw [decide_eq_false_iff_not]; omega⟩
      · exact .inl (by rw [decide_eq_false_iff_not]; omega)
    refine (num_bad G ba _ bc _ 0 lo hi E0 E1 E2 E2 _ hRd hA0 hA1 hA2 (.inr (.inr ⟨z, _, HD.out, by rw [HZ.out]; omega, rfl⟩))).mono ?_
    rintro e w6 ⟨⟨q, hq, rfl, hF⟩, hG6⟩
    replace c1 := c1.trans (on_below hG6 hGw c1.size)
    clear hRd hA0 hA1 hA2 hG6 hin HD HZ hY
    rcases e12 with e1 | ⟨e1, e2⟩
    all_goals
      go_wp2_with fail
      refine (num_err G ba _ bc _ 0 _ _ E2 q _ hF).mono ?_
      rintro e w7 ⟨rfl, hb7⟩
      have hF7 := hF.below hb7
      replace c1 := c1.trans (hb7.mono c1.size)
      go_wp2_with fail
      refine (bool_err G ba _ bc _ 0 E2 q _ hF7).mono ?_
      rintro e w8 ⟨rfl, hb8⟩
      have hF8 := hF7.below hb8
      replace c1 := c1.trans (hb8.mono c1.size)
      go_wp2_with fail
      refine (text_err G ba _ bc _ 0 E2 q 9 _ hF8 (by decide)).mono ?_
      rintro e w9 ⟨rfl, hb9⟩
      have hF9 := hF8.below hb9
      replace c1 := c1.trans (hb9.mono c1.size)
      go_wp2_with fail
      refine (at_w G ba _ bc _ _ _ _ hF9.1).mono ?_
      rintro e w10 ⟨rfl, hb10⟩
      have hF10 := hF9.below hb10
      replace c1 := c1.trans (hb10.mono c1.size)
      go_wp2_with fail
      refine (err_w G ba _ bc _ _ _ _ hF10.1).mono ?_
      rintro e w11 ⟨rfl, hb11⟩
      have hF11 := hF10.below hb11
      replace c1 := c1.trans (hb11.mono c1.size)
      go_wp2_with fail
      refine (placed_w 103 0 _ (by decide)).mono ?_
      rintro e w12 ⟨rfl, hb12⟩
      have hF12 := hF11.below hb12
      replace c1 := c1.trans (hb12.mono c1.size)
      go_wp2_with fail
      refine (samep_w (atv q) (101 + ((2 : Nat) : Int)) 103 true true 0 0 _ (fun W hW => fault_at bs W ((hB.below c1).below hW) 2 q 0 E2 hE2 (hF12.below hW).2)).mono ?_
      rintro e w13 ⟨rfl, hb13⟩
      rw [show (101 + ((2 : Nat) : Int) == 103 && true == true && (0 : Int) == 0) = true by decide]
      replace c1 := c1.trans (hb13.mono c1.size)
      go_wp2_with fail
      go_ret
      exact ⟨rfl, c1⟩

theorem walk (a0 a1 a2 : Int) (a3 : Option Addr) (len3 cap3 : Nat) (z3 : List Int) (w : World) (hA : Err.All w SeeW.gl) (w0 : (Lit.int .i64 a0).wf = true) (w1 : (Lit.int .i64 a1).wf = true) (w2 : (Lit.int .i64 a2).wf = true) (w3 : IsRow .u8 w a3 len3 cap3 z3) :
    Calls Tryd.prog 12 #[.int .i64 a0, .int .i64 a1, .int .i64 a2, .slice a3 len3 cap3] w fun e w' => e = .returned (.bool true) ∧ Below w.heap.size w w' := by
  obtain ⟨bs, hB⟩ := SeeW.bs_of hA
  obtain ⟨l, hl, hx⟩ := nums_of rfl w3
  by_cases h : 50 < len3
  · exact over a0 a1 a2 a3 len3 cap3 w h
  · exact good a0 a1 a2 a3 len3 cap3 l bs w hB hl (fun x m => Nat.lt_of_lt_of_le (hx x m) (by decide)) (by omega) (int_of w0)
end Go.Proofs.YtdgbgdkfoeoppaaDoor.wireRanges
