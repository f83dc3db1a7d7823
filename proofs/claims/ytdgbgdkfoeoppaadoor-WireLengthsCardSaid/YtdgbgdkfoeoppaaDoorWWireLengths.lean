/- The walk of WireLengths. -/
import Derived.Test.YtdgbgdkfoeoppaaDoorWireFirst
import Derived.Test.YtdgbgdkfoeoppaaDoorWireText
import Derived.Test.YtdgbgdkfoeoppaaDoorWireSee
import Derived.Test.YtdgbgdkfoeoppaaDoorZeros
import Derived.Test.YtdgbgdkfoeoppaaDoorNumWalk
namespace Go.Proofs.YtdgbgdkfoeoppaaDoor.wireLengths
open Go Go.RowKit Go.Proofs.YtdgbgdkfoeoppaaDoor.Mem Go.Proofs.YtdgbgdkfoeoppaaDoor.RefW Go.Proofs.YtdgbgdkfoeoppaaDoor.Text Go.Proofs.YtdgbgdkfoeoppaaDoor.Wire
set_option linter.unusedVariables false
set_option maxRecDepth 100000

/-- a truth that is not so -/
theorem bool_no (g : Nat) (a : Option Addr) (n cap : Nat) (l : List Nat) (p z k : Nat) (E0 E1 : Addr) (w : World) (hR : Rd w g a n cap l p .nilIface) (h0 : Err.At w 2 E0) (h1 : Err.At w 3 E1)
    (hd : dec 0 0 (l.drop p) = .num z k) (hz : zag z = 0) :
    Calls Tryd.prog 50 #[.pointer (some ⟨g, 0, none⟩)] w fun e w' => e = .returned (.bool false) ∧ Rd w' g a n cap l (p + k) .nilIface ∧ w.grownBy w' (some g) := by
  go_enter Tryd.func50, Tryd.ntmps50
  go_wp2_with fail
  refine (num_ok g a n cap l p z k 0 1 E0 E1 _ hR h0 h1 hd (by omega) (by omega)).mono ?_
  rw [hz]
  rintro e w1 ⟨rfl, hb⟩
  go_wp2_with fail
  go_ret
  exact ⟨rfl, hb⟩

set_option maxHeartbeats 6400000 in
theorem good (a0 a1 : Int) (n most : Nat) (bs : List Addr) (w : World) (hB : SeeW.Bs w bs) (h0 : -9223372036854775808 ≤ a0 ∧ a0 ≤ 9223372036854775807) (h1 : -9223372036854775808 ≤ a1 ∧ a1 ≤ 9223372036854775807) (e0 : a0 % 300 = (n : Int)) (e1 : a1 % 300 = (most : Int)) :
    Calls Tryd.prog 14 #[.int .i64 a0, .int .i64 a1] w fun e w' => e = .returned (.bool true) ∧ Below w.heap.size w w' := by
  have hn : n < 300 := by omega
  have hm : most < 300 := by omega
  have n0 := fun w => NumW.number_w a0 300 w (by decide) (by decide) h0.1 h0.2
  have n1 := fun w => NumW.number_w a1 300 w (by decide) (by decide) h1.1 h1.2
  rw [e0] at n0
  rw [e1] at n1
  have hss : -9223372036854775808 ≤ (n : Int) ∧ (n : Int) ≤ 9223372036854775807 := by omega
  have zn := zig_lt hss
  have ln := enc_ten zn
  have HS := hid (zag_zig (n : Int))
  have HZ := hid (zs_size n)
  have HT := hid (zs_txt n)
  have cw := fun (w : World) (xa : Option Addr) (h : Nums .u8 w xa 1 1 [0]) => putt_w xa 1 1 [0] (zs n) w h (by rw [zs_size]; omega) (by decide)
  rw [zs_size, zs_txt] at cw
  have HD := hid (show dec 0 0 (([0] ++ enc (zig n) ++ List.replicate n 0).drop 0) = .num 0 1 by
    simp [dec])
  have HE := hid (show dec 0 0 (([0] ++ enc (zig n) ++ List.replicate n 0).drop 1) = .num (zig n) (enc (zig n)).length by
    rw [List.append_assoc]
    show dec 0 0 (enc (zig n) ++ List.replicate n 0) = _
    rw [dec_enc (zig n) 0 0 _ (.inl rfl) (by simpa using zn) (by decide)]
    simp)
  have HU := hid (show (([0] ++ enc (zig n) ++ List.replicate n 0).drop (1 + (enc (zig n)).length)).take n = List.replicate n 0 by
    rw [show 1 + (enc (zig n)).length = ([0] ++ enc (zig n)).length by simp; omega, List.drop_left, List.take_of_length_le (by simp)])
  have hY : ∀ q ∈ [0] ++ enc (zig n) ++ List.replicate n 0, q < 256 := by
    intro q hq
    rcases List.mem_append.1 hq with hq | hq
    · rcases List.mem_append.1 hq with hq | hq
      · simp at hq; omega
      · exact enc_byte _ q hq
    · rw [List.eq_of_mem_replicate hq]; decide
  generalize enc (zig n) = x at *
  generalize zig (n : Int) = z at *
  clear e0 e1 h0 h1
  go_enter Tryd.func14, Tryd.ntmps14
  go_wp2_with fail
  refine (first_w _).mono ?_
  rintro e w1 ⟨rfl, c1⟩
  go_wp2_with fail
  refine (n0 _).mono ?_
  rintro e w' ⟨rfl, rfl⟩
  go_wp2_with fail
  refine (n1 _).mono ?_
  rintro e w' ⟨rfl, rfl⟩
  have hF : Nums .u8 (w1.alloc (.cells #[.int .u8 0] 5)) (some ⟨w1.heap.size, 0, none⟩) 1 1 [0] := Row.fresh w1 #[.int .u8 0] 5 (0, 0) 1 rfl (by decide)
  have c2 := c1.alloc c1.size (.cells #[.int .u8 0] 5)
  clear n0 n1
  go_wp2_with (at_make; go_must (refine wpList_mkn elU8 rfl _ _ rfl (w1.heap.size + 1) _ _ _ _ n rfl rfl rfl rfl (by omega) (by unfold maxLen; omega) (by simp) ?_); intro w3 hown3 hg3; go_must (have hR3 : Nums .u8 w3 (some ⟨w1.heap.size + 1, 0, none⟩) n n (List.replicate n 0) := by rw [made_nums] at hown3; unfold Nums; simpa using (Row.owned hown3).2); have cv := conv hR3)
  have z2 : (w1.alloc (.cells #[.int .u8 0] 5)).heap.size = w1.heap.size + 1 := by simp
  have hF3 : Nums .u8 w3 (some ⟨w1.heap.size, 0, none⟩) 1 1 [0] := hF.below (below_growns hg3 (Nat.le_refl _))
  have c3 := c2.trans (below_growns hg3 c2.size)
  clear hg3 hown3 cv hF hR3 z2
  refine (cw _ _ hF3).mono ?_
  rintro e w4 ⟨v, rfl, hv, hb4⟩
  obtain ⟨ra, rc, rfl, hr⟩ := ownsRow_slice hv
  have hr : Nums .u8 w4 ra (1 + x.length + n) rc ([0] ++ x ++ List.replicate n 0) := hr
  replace c3 := c3.trans (hb4.mono c3.size)
  clear hv hb4 cw hF3
  go_wp2_with fail
  refine (new_w ra _ rc _ _ hr hY (by omega)).mono ?_
  rintro e w7 ⟨⟨G, ba, bc, rfl, hG, hRd⟩, hb7⟩
  have hGw := Nat.le_trans c3.size hG
  replace c3 := c3.trans (hb7.mono c3.size)
  clear hb7 hr hG
  obtain ⟨E0, hE0, hA0⟩ := hB.2.2 0 _ rfl
  obtain ⟨E1, hE1, hA1⟩ := hB.2.2 1 _ rfl
  obtain ⟨E2, hE2, hA2⟩ := hB.2.2 2 _ rfl
  go_wp2_with fail
  refine (bool_no G ba _ bc _ 0 0 1 E0 E1 _ hRd (hA0.below c3) (hA1.below c3) HD.out (by decide)).mono ?_
  rintro e w8 ⟨rfl, hR8, hG8⟩
  rw [Nat.zero_add] at hR8
  replace c3 := c3.trans (on_below hG8 hGw c3.size)
  clear hRd hG8
  go_wp2_with fail
  by_cases hin : n ≤ most
  · have d1 : decide ((n : Int) ≤ (most : Int)) = true := by rw [decide_eq_true_eq]; omega
    refine (text_ok G ba _ bc _ 1 z x.length n most E0 E1 _ hR8 (hA0.below c3) (hA1.below c3) HE.out HS.out (by omega) (by omega) (Nat.le_refl _)).mono ?_
    rw [HU.out]
    rintro e w9 ⟨rfl, hR9, hG9⟩
    replace c3 := c3.trans (on_below hG9 hGw c3.size)
    have hsz := size_of (List.replicate n 0)
    rw [List.length_replicate] at hsz
    clear hR8 hG9
    go_wp2_with fail
    refine (err_w G ba _ bc _ _ _ _ hR9).mono ?_
    rintro e w10 ⟨rfl, hb10⟩
    have hR10 := hR9.below hb10
    replace c3 := c3.trans (hb10.mono c3.size)
    go_wp2_with fail
    refine (left_w G ba _ bc _ _ _ _ hR10).mono ?_
    rw [Nat.sub_self]
    rintro e w11 ⟨rfl, hb11⟩
    replace c3 := c3.trans (hb11.mono c3.size)
    go_wp2_with fail
    go_ret
    exact ⟨ret_bool (by simp), c3⟩
  · have d1 : decide ((n : Int) ≤ (most : Int)) = false := by rw [decide_eq_false_iff_not]; omega
    refine (text_range G ba _ bc _ 1 z x.length most E0 E1 E2 _ hR8 (hA0.below c3) (hA1.below c3) (hA2.below c3) HE.out (by rw [HS.out]; omega) (by omega)).mono ?_
    rintro e w9 ⟨⟨q, hq, rfl, hF⟩, hG9⟩
    replace c3 := c3.trans (on_below hG9 hGw c3.size)
    clear hR8 hG9
    go_wp2_with fail
    refine (err_w G ba _ bc _ _ _ _ hF.1).mono ?_
    rintro e w10 ⟨rfl, hb10⟩
    have hF10 := hF.below hb10
    replace c3 := c3.trans (hb10.mono c3.size)
    go_wp2_with fail
    refine (placed_w 103 1 _ (by decide)).mono ?_
    rintro e w11 ⟨rfl, hb11⟩
    have hF11 := hF10.below hb11
    replace c3 := c3.trans (hb11.mono c3.size)
    go_wp2_with fail
    refine (samep_w (atv q) (101 + ((2 : Nat) : Int)) 103 true true 1 1 _ (fun W hW => fault_at bs W ((hB.below c3).below hW) 2 q 1 E2 hE2 (hF11.below hW).2)).mono ?_
    rintro e w12 ⟨rfl, hb12⟩
    rw [show (101 + ((2 : Nat) : Int) == 103 && true == true && (1 : Int) == 1) = true by decide]
    replace c3 := c3.trans (hb12.mono c3.size)
    go_wp2_with fail
    go_ret
    exact ⟨rfl, c3⟩

theorem walk (a0 a1 : Int) (w : World) (hA : Err.All w SeeW.gl) (w0 : (Lit.int .i64 a0).wf = true) (w1 : (Lit.int .i64 a1).wf = true) :
    Calls Tryd.prog 14 #[.int .i64 a0, .int .i64 a1] w fun e w' => e = .returned (.bool true) ∧ Below w.heap.size w w' := by
  obtain ⟨bs, hB⟩ := SeeW.bs_of hA
  exact good a0 a1 (a0 % 300).toNat (a1 % 300).toNat bs w hB (int_of w0) (int_of w1) (by omega) (by omega)
end Go.Proofs.YtdgbgdkfoeoppaaDoor.wireLengths
