/- The walk of WirePuts. -/
import Derived.Test.YtdgbgdkfoeoppaaDoorWireFirst
import Derived.Test.YtdgbgdkfoeoppaaDoorWireText
import Derived.Test.YtdgbgdkfoeoppaaDoorWireRef
namespace Go.Proofs.YtdgbgdkfoeoppaaDoor.wirePuts
open Go Go.RowKit Go.Proofs.YtdgbgdkfoeoppaaDoor.Mem Go.Proofs.YtdgbgdkfoeoppaaDoor.RefW Go.Proofs.YtdgbgdkfoeoppaaDoor.Text Go.Proofs.YtdgbgdkfoeoppaaDoor.Wire
set_option linter.unusedVariables false
set_option maxRecDepth 100000

theorem over (a : Option Addr) (m cap : Nat) (n : Int) (s : ByteArray) (w : World) (h : 100 < m ∨ 100 < s.size) :
    Calls Tryd.prog 11 #[.slice a m cap, .int .i64 n, .string s] w fun e w' => e = .returned (.bool true) ∧ Below w.heap.size w w' := by
  by_cases hm : 100 < m
  case' pos => have d1 : decide ((100 : Int) < (m : Int)) = true := by rw [decide_eq_true_eq]; omega
  case' neg =>
    have d1 : decide ((100 : Int) < (m : Int)) = false := by rw [decide_eq_false_iff_not]; omega
    have d2 : decide ((100 : Int) < (s.size : Int)) = true := by rw [decide_eq_true_eq]; omega
  all_goals
    clear h hm
    go_enter Tryd.func11, Tryd.ntmps11
    go_wp2_with fail
    refine (first_w _).mono ?_
    rintro e w1 ⟨rfl, hb1⟩
    go_wp2_with fail
    go_ret
    exact ⟨rfl, hb1⟩

set_option maxHeartbeats 6400000 in
theorem good (a : Option Addr) (m cap : Nat) (l : List Nat) (n : Int) (s : ByteArray) (bs : List Addr) (w : World) (hA0' : ∃ E0, Err.At w 2 E0) (hA1' : ∃ E1, Err.At w 3 E1) (hl : Nums .u8 w a m cap l) (hm : m ≤ 100) (hs : s.size ≤ 100) (hn : -9223372036854775808 ≤ n ∧ n ≤ 9223372036854775807) :
    Calls Tryd.prog 11 #[.slice a m cap, .int .i64 n, .string s] w fun e w' => e = .returned (.bool true) ∧ Below w.heap.size w w' := by
  obtain ⟨E0, hA0⟩ := hA0'
  obtain ⟨E1, hA1⟩ := hA1'
  have zn := zig_lt hn
  have ln := enc_ten zn
  have hss : -9223372036854775808 ≤ (s.size : Int) ∧ (s.size : Int) ≤ 9223372036854775807 := by omega
  have zs := zig_lt hss
  have ls := enc_ten zs
  have d1 : decide ((100 : Int) < (m : Int)) = false := by rw [decide_eq_false_iff_not]; omega
  have d2 : decide ((100 : Int) < (s.size : Int)) = false := by rw [decide_eq_false_iff_not]; omega
  have cn := fun w => puts_w none 0 0 [] n w (Nums.nil _ _) hn (by decide)
  have cp := fun w h => puts_w a m cap l n w h hn (by omega)
  have cq := fun w h => putt_w a m cap l s w h (by omega) (by omega)
  have rp := fun w h => rputs_w a m cap l n w h hn (by omega)
  have rq := fun w h => rputt_w a m cap l s w h (by omega) (by omega)
  have cw := fun (w : World) (xa : Option Addr) (xc : Nat) (h : Nums .u8 w xa (enc (zig n)).length xc (enc (zig n))) => putt_w xa _ xc _ s w h (by omega) (by omega)
  have HZ := hid (zag_zig n)
  have HS := hid (zag_zig (s.size : Int))
  have HT := hid (Text.length s)
  have HO := hid (of_txt s)
  have HD := hid (show dec 0 0 ((enc (zig n) ++ enc (zig s.size) ++ txt s).drop 0) = .num (zig n) (enc (zig n)).length by
    rw [List.drop_zero, List.append_assoc, dec_enc (zig n) 0 0 _ (.inl rfl) (by simpa using zn) (by decide)]
    simp)
  have HE := hid (show dec 0 0 ((enc (zig n) ++ enc (zig s.size) ++ txt s).drop (enc (zig n)).length) = .num (zig s.size) (enc (zig s.size)).length by
    rw [List.append_assoc, List.drop_left, dec_enc (zig s.size) 0 0 _ (.inl rfl) (by simpa using zs) (by decide)]
    simp)
  have HU := hid (show ((enc (zig n) ++ enc (zig s.size) ++ txt s).drop ((enc (zig n)).length + (enc (zig s.size)).length)).take s.size = txt s by
    rw [← List.length_append, List.drop_left, List.take_of_length_le (by rw [Text.length]; omega)])
  have hY : ∀ q ∈ enc (zig n) ++ enc (zig s.size) ++ txt s, q < 256 := by
    intro q hq
    rcases List.mem_append.1 hq with hq | hq
    · rcases List.mem_append.1 hq with hq | hq
      · exact enc_byte _ q hq
      · exact enc_byte _ q hq
    · exact Text.lt s q hq
  simp only [List.nil_append, Nat.zero_add] at cn
  generalize enc (zig n) = x at *
  generalize enc (zig s.size) = y at *
  generalize zig n = z at *
  generalize zig (s.size : Int) = z' at *
  go_enter Tryd.func11, Tryd.ntmps11
  go_wp2_with fail
  refine (first_w _).mono ?_
  rintro e w1 ⟨rfl, c1⟩
  replace hl := hl.below c1
  go_wp2_with fail
  refine (bytes_w a m cap l _ hl (by omega)).mono ?_
  rintro e w2 ⟨v, rfl, hv, hb2⟩
  obtain ⟨wa, wc, rfl, hwas⟩ := ownsRow_slice hv
  have hwas : Nums .u8 w2 wa m wc l := hwas
  replace hl := hl.below hb2
  replace c1 := c1.trans (hb2.mono c1.size)
  clear hv hb2
  go_wp2_with fail
  refine (cp _ hl).mono ?_
  rintro e w3 ⟨v, rfl, hv, hb3⟩
  obtain ⟨pa, pc, rfl, hp⟩ := ownsRow_slice hv
  have hp : Nums .u8 w3 pa (m + x.length) pc (l ++ x) := hp
  replace hl := hl.below hb3
  replace hwas := hwas.below hb3
  replace c1 := c1.trans (hb3.mono c1.size)
  clear hv hb3 cp
  go_wp2_with fail
  refine (cq _ hl).mono ?_
  rintro e w4 ⟨v, rfl, hv, hb4⟩
  obtain ⟨qa, qc, rfl, hq⟩ := ownsRow_slice hv
  have hq : Nums .u8 w4 qa (m + y.length + s.size) qc (l ++ y ++ txt s) := hq
  replace hl := hl.below hb4
  replace hwas := hwas.below hb4
  replace hp := hp.below hb4
  replace c1 := c1.trans (hb4.mono c1.size)
  clear hv hb4 cq
  go_wp2_with fail
  refine (cn _).mono ?_
  rintro e w5 ⟨v, rfl, hv, hb5⟩
  obtain ⟨xa, xc, rfl, hx⟩ := ownsRow_slice hv
  have hx : Nums .u8 w5 xa x.length xc x := hx
  replace hl := hl.below hb5
  replace hwas := hwas.below hb5
  replace hp := hp.below hb5
  replace hq := hq.below hb5
  replace c1 := c1.trans (hb5.mono c1.size)
  clear hv hb5 cn
  go_wp2_with fail
  refine (cw _ xa xc hx).mono ?_
  rintro e w6 ⟨v, rfl, hv, hb6⟩
  obtain ⟨ra, rc, rfl, hr⟩ := ownsRow_slice hv
  have hr : Nums .u8 w6 ra (x.length + y.length + s.size) rc (x ++ y ++ txt s) := hr
  replace hl := hl.below hb6
  replace hwas := hwas.below hb6
  replace hp := hp.below hb6
  replace hq := hq.below hb6
  replace c1 := c1.trans (hb6.mono c1.size)
  clear hv hb6 hx cw
  go_wp2_with fail
  refine (new_w ra _ rc _ _ hr hY (by omega)).mono ?_
  rintro e w7 ⟨⟨G, ba, bc, rfl, hG, hRd⟩, hb7⟩
  have hGw := Nat.le_trans c1.size hG
  replace hl := hl.below hb7
  replace hwas := hwas.below hb7
  replace hp := hp.below hb7
  replace hq := hq.below hb7
  replace c1 := c1.trans (hb7.mono c1.size)
  clear hb7 hr hG
  go_wp2_with fail
  refine (rp _ hl).mono ?_
  rintro e w8 ⟨v, rfl, hv, hb8⟩
  obtain ⟨pa', pc', rfl, hp'⟩ := ownsRow_slice hv
  have hp' : Nums .u8 w8 pa' (m + x.length) pc' (l ++ x) := hp'
  replace hl := hl.below hb8
  replace hwas := hwas.below hb8
  replace hp := hp.below hb8
  replace hq := hq.below hb8
  replace hRd := hRd.below hb8
  replace c1 := c1.trans (hb8.mono c1.size)
  clear hv hb8 rp
  go_wp2_with fail
  refine (RefW.same_w pa _ pc _ pa' _ pc' _ _ hp hp').mono ?_
  rintro e w9 ⟨rfl, hb9⟩
  rw [show decide (l ++ x = l ++ x) = true by simp]
  replace hl := hl.below hb9
  replace hwas := hwas.below hb9
  replace hq := hq.below hb9
  replace hRd := hRd.below hb9
  replace c1 := c1.trans (hb9.mono c1.size)
  clear hb9 hp hp'
  go_wp2_with fail
  refine (rq _ hl).mono ?_
  rintro e w10 ⟨v, rfl, hv, hb10⟩
  obtain ⟨qa', qc', rfl, hq'⟩ := ownsRow_slice hv
  have hq' : Nums .u8 w10 qa' (m + y.length + s.size) qc' (l ++ y ++ txt s) := hq'
  replace hl := hl.below hb10
  replace hwas := hwas.below hb10
  replace hq := hq.below hb10
  replace hRd := hRd.below hb10
  replace c1 := c1.trans (hb10.mono c1.size)
  clear hv hb10 rq
  go_wp2_with fail
  refine (RefW.same_w qa _ qc _ qa' _ qc' _ _ hq hq').mono ?_
  rintro e w11 ⟨rfl, hb11⟩
  rw [show decide (l ++ y ++ txt s = l ++ y ++ txt s) = true by simp]
  replace hl := hl.below hb11
  replace hwas := hwas.below hb11
  replace hRd := hRd.below hb11
  replace c1 := c1.trans (hb11.mono c1.size)
  clear hb11 hq hq'
  go_wp2_with fail
  refine (RefW.same_w a m cap l wa m wc l _ hl hwas).mono ?_
  rintro e w12 ⟨rfl, hb12⟩
  rw [show decide (l = l) = true by simp]
  replace hRd := hRd.below hb12
  replace c1 := c1.trans (hb12.mono c1.size)
  clear hb12 hl hwas
  go_wp2_with fail
  refine (num_ok G ba _ bc _ 0 z x.length _ _ E0 E1 _ hRd (hA0.below c1) (hA1.below c1) HD.out (by rw [HZ.out]; exact hn.1) (by rw [HZ.out]; exact hn.2)).mono ?_
  rw [HZ.out, Nat.zero_add]
  rintro e w13 ⟨rfl, hR13, hG13⟩
  replace c1 := c1.trans (on_below hG13 hGw c1.size)
  clear hRd hG13
  go_wp2_with fail
  refine (text_ok G ba _ bc _ x.length z' y.length s.size 100 E0 E1 _ hR13 (hA0.below c1) (hA1.below c1) HE.out HS.out (by omega) (by decide) (Nat.le_refl _)).mono ?_
  rw [HU.out, HO.out]
  rintro e w14 ⟨rfl, hR14, hG14⟩
  replace c1 := c1.trans (on_below hG14 hGw c1.size)
  clear hR13 hG14
  go_wp2_with fail
  refine (left_w G ba _ bc _ _ _ _ hR14).mono ?_
  rintro e w15 ⟨rfl, hb15⟩
  rw [Nat.sub_self]
  have hR15 := hR14.below hb15
  replace c1 := c1.trans (hb15.mono c1.size)
  go_wp2_with fail
  refine (err_w G ba _ bc _ _ _ _ hR15).mono ?_
  rintro e w16 ⟨rfl, hb16⟩
  replace c1 := c1.trans (hb16.mono c1.size)
  go_wp2_with fail
  go_ret
  exact ⟨ret_bool (by simp), c1⟩

theorem walk (a0 : Option Addr) (len0 cap0 : Nat) (z0 : List Int) (a1 : Int) (a2 : ByteArray) (w : World) (hA : Err.All w [2, 3, 0]) (w0 : IsRow .u8 w a0 len0 cap0 z0) (w1 : (Lit.int .i64 a1).wf = true) (w2 : a2.size ≤ maxLen) :
    Calls Tryd.prog 11 #[.slice a0 len0 cap0, .int .i64 a1, .string a2] w fun e w' => e = .returned (.bool true) ∧ Below w.heap.size w w' := by
  obtain ⟨l, hl, hx⟩ := nums_of rfl w0
  by_cases h : 100 < len0 ∨ 100 < a2.size
  · exact over a0 len0 cap0 a1 a2 w h
  · exact good a0 len0 cap0 l a1 a2 [] w (hA.at 0 _ rfl) (hA.at 1 _ rfl) hl (by omega) (by omega) (int_of w1)
end Go.Proofs.YtdgbgdkfoeoppaaDoor.wirePuts
