/- The walk of DevKeeps. -/
import Derived.Test.YtlljpljfmaaejaaDoorDevKeep
import Derived.Test.YtlljpljfmaaejaaDoorDevArm
import Derived.Test.YtlljpljfmaaejaaDoorPickOdd
namespace Go.Proofs.YtlljpljfmaaejaaDoor.devKeeps
open Go Go.RowKit Go.Maps Go.Proofs.YtlljpljfmaaejaaDoor.Mem Go.Proofs.YtlljpljfmaaejaaDoor.MapsW Go.Proofs.YtlljpljfmaaejaaDoor.SeeW Go.Proofs.YtlljpljfmaaejaaDoor.DevG Go.Proofs.YtlljpljfmaaejaaDoor.DevL Go.Proofs.YtlljpljfmaaejaaDoor.Ints
set_option linter.unusedVariables false
set_option maxRecDepth 100000

set_option maxHeartbeats 16000000 in
theorem few (A B : Nat) (a : Option Addr) (len cap : Nat) (zs : List Int) (bs : List Addr) (w : World) (hB : Ev w w.heap.size bs five) (hz : Is w a len cap zs) (hl : len ≤ 16) :
    Calls Tryd.prog 5 #[.int .u8 A, .int .u8 B, .slice a len cap] w fun e w' => e = .returned (.bool true) ∧ Below w.heap.size w w' := by
  have dl : decide ((16 : Int) < (len : Int)) = false := decide_eq_false (by omega)
  have HL := hid hl
  clear hl
  go_enter Tryd.func5, Tryd.ntmps5
  go_wp2_with fail
  refine (first_w bs w hB).mono ?_
  rintro e w1 ⟨rfl, b1⟩
  have HE := hid ((hB.below b1).mono b1.size)
  have HB1 := hid b1
  have HZ := hid hz
  clear hB b1 hz
  go_wp2_with fail
  refine (new_w 8 w1 (by decide) (by decide)).mono ?_
  rintro e w2 ⟨rfl, h2, b2, z2⟩
  have H2 := hid h2
  have HB2 := hid b2
  have hwh := whole_w A w2
  clear h2 b2 z2
  go_wp2_with fail
  refine hwh.mono ?_
  rintro e w3 ⟨g3, gc3, rfl, n3, hg3, b3⟩
  have h3 := H2.out.below b3
  have B3 := HB2.out.trans (b3.mono HB2.out.size)
  have hw := write_ok _ _ _ _ _ 0 _ gc3 (wh A) w3 h3 (by show 0 < 8; decide) (by show 8 ≤ 6000; decide) n3 (by decide) (by decide) (by decide) rfl
  rw [show (Dv.new 8).tick = Dv.new 8 from rfl] at hw
  have HB3 := hid B3
  have HO3 := hid h3.own_lo
  clear hwh n3 hg3 b3 h3 B3 H2 HB2
  go_wp2_with fail
  refine hw.mono ?_
  rintro e w4 ⟨rfl, h4, t4⟩
  have hnp : ((Dv.new 8).put ((0 : Nat) : Int) (wh A)).np ≤ 1 := put_np_le _ _ _
  have B4 := hid (HB3.out.trans (t4.below HB3.out.size HO3.out))
  have hfl := flush_ok _ _ _ _ _ w4 h4 (by omega) (by omega) (by show 0 + 1 < 1000000; decide) (Nat.zero_le _) rfl
  have HO4 := hid h4.own_lo
  clear hw h4 t4 HB3 HO3
  go_wp2_with fail
  refine hfl.mono ?_
  rintro e w5 ⟨rfl, p5, hp5, h5, t5⟩
  have B5 := hid (B4.out.trans (t5.below B4.out.size HO4.out))
  have hfa := fail_w _ _ _ _ _ 3 w5 h5 (by decide) (by omega)
  rw [show ((Dv.new 8).put ((0 : Nat) : Int) (wh A)).tick = (Dv.new 8).put ((0 : Nat) : Int) (wh A) from rfl, kp_start (wh A) (wh B)] at hfa
  rw [show ((Dv.new 8).put ((0 : Nat) : Int) (wh A)).flush.may 3 = true from rfl] at hfa
  have HO5 := hid h5.own_lo
  clear hfl h5 t5 B4 HO4
  go_wp2_with fail
  refine hfa.mono ?_
  rintro e w6 ⟨rfl, h6, t6⟩
  have B6 := hid (B5.out.trans (t6.below B5.out.size HO5.out))
  have H6 := hid (h6.mono (n' := 20) (lo' := w1.heap.size) (by omega) (Nat.le_refl _))
  clear hfa h6 t6 B5 HO5 hp5 hnp
  go_wp2_with fail
  generalize ({ mp w1.heap.size with p := p5 } : Mp) = m at *
  go_loopw [10] (fun iv wr => ∃ k : Nat, k ≤ 8 ∧ iv = .int .i64 (k : Int) ∧ At wr w1.heap.size (w1.heap.size + 5) (20 + k) m (kp (wh A) (wh B) k) ∧ Below w1.heap.size w1 wr) (fun iv _ => 8 - (RowKit.intOf iv).toNat)
  case atStart => exact ⟨0, by omega, rfl, H6.out, B6.out⟩
  case round =>
    clear B6 H6
    obtain ⟨k, hk, rfl, hD, hb⟩ := hrel
    have HW := hid hb
    have HO := hid hD.own_lo
    by_cases hlt : k < 8
    · have hwh := whole_w B wr
      clear hb
      go_wp2_with fail
      refine hwh.mono ?_
      rintro e w4 ⟨g, gc, rfl, n4, hg4, b4⟩
      have hD4 := hD.below b4
      have B4 := hid (HW.out.trans (b4.mono HW.out.size))
      have hw := write_ok _ _ _ _ _ k _ gc (wh B) w4 hD4 hlt (by show 8 ≤ 6000; decide) n4 (by omega) (by show k + 2 < 1000000; omega) (Nat.zero_le _) rfl
      rw [show (kp (wh A) (wh B) k).tick = kp (wh A) (wh B) k from rfl, kp_next] at hw
      clear hwh n4 hg4 b4 hD4 hD
      go_wp2_with fail
      refine hw.mono ?_
      rintro e w5 ⟨rfl, h5, t5⟩
      have B5 := hid (B4.out.trans (t5.below B4.out.size HO.out))
      have H5 := hid h5
      clear hw h5 t5
      go_wp2_with fail
      go_roundw
      case rel => exact ⟨k + 1, by omega, by go_num, H5.out, B5.out⟩
      case measure => simp [RowKit.intOf]; omega
    · obtain rfl : k = 8 := by omega
      have hcr := crash_w _ _ _ _ _ a len cap zs wr hD (fun w' t => HZ.out.below (HB1.out.trans ((HW.out.trans (t.below HW.out.size HO.out)).mono HB1.out.size))) (by show 8 ≤ 1000; decide) (by omega)
      clear hD hb
      go_wp2_with fail
      refine hcr.mono ?_
      rintro e w4 ⟨rfl, ks, p', hK, hp', h4, t4⟩
      have HG := hid (kp_get (wh A) (wh B) zs ks hK)
      have HB4 := hid (HW.out.trans (t4.below HW.out.size HO.out))
      have H4 := hid (h4.mono (n' := 100) (lo' := w1.heap.size) (by show 20 + 8 + 3 * 8 ≤ 100; decide) (Nat.le_refl _))
      have hnp : ((kp (wh A) (wh B) 8).crash ks zs).np = 0 := rfl
      clear hcr hK t4 h4 hp'
      generalize (kp (wh A) (wh B) 8).crash ks zs = D at *
      generalize ({ m with p := p' } : Mp) = m4 at *
      have hlen := HZ.out.len
      obtain ⟨q1, q2⟩ := HZ.out.bound
      go_wp2_with fail
      go_loopw [11] (fun iv wr => ∃ k : Nat, k ≤ 8 ∧ iv = .int .i64 (k : Int) ∧ Below w4.heap.size w4 wr) (fun iv _ => 8 - (RowKit.intOf iv).toNat)
      case atStart => exact ⟨0, by omega, rfl, Below.refl _ _⟩
      case round =>
        obtain ⟨i, hi, rfl, hb⟩ := hrel
        by_cases hlt : i < 8
        · obtain ⟨hg1, hg2⟩ := HG.out i hlt
          have hB4 := HE.out.below (HB4.out.trans (hb.mono HB4.out.size))
          have hr := read_w bs _ _ _ _ D (i : Int) wr (H4.out.below hb) hB4 (fits_nat (by omega))
          have HBB := hid hb
          have HA4 := hid (H4.out.below hb)
          clear hb hB4
          by_cases hil : i < len
          · have hil' : i < zs.length := by omega
            have hZ := HZ.out.below (HB1.out.trans ((HB4.out.trans (HBB.out.mono HB4.out.size)).mono HB1.out.size))
            obtain ⟨b0, o0, rfl, hz0⟩ := hZ.at hil'
            have hpk : pick zs i = (zs[i].tmod 2 != 0) := by unfold pick; rw [List.getElem?_eq_getElem hil']; exact pick_odd _
            clear hZ
            generalize zs[i] = y at *
            have di : decide ((i : Int) < (len : Int)) = true := decide_eq_true (by omega)
            cases hy : (y.tmod 2 != 0)
            · rw [hy] at hpk
              by_cases h0 : i = 0
              · subst h0
                try rw [Nat.add_zero] at hz0
                rw [hpk] at hg1 hg2
                rw [if_neg (by decide), if_neg (by decide), if_pos rfl] at hg1
                rw [show (!false && decide (0 = 3)) = false from by rfl] at hg2
                rw [hg1] at hr
                clear hg1
                go_wp2_with fail
                refine hr.mono ?_
                rintro e w5 ⟨⟨g5, gc5, rfl, n5, _⟩, b5⟩
                have B5 := hid (HBB.out.trans (b5.mono HBB.out.size))
                have N5 := hid n5
                have HA5 := hid (HA4.out.below b5)
                have hwh := whole_w A w5
                clear hr b5 n5
                go_wp2_with fail
                refine hwh.mono ?_
                rintro e w6 ⟨g6, gc6, rfl, n6, _, b6⟩
                have hsm := RefW.same_w _ 256 gc5 _ _ 256 gc6 _ w6 (N5.out.below b6) n6
                rw [decide_eq_true (show wh A = wh A from rfl)] at hsm
                have B6 := hid (B5.out.trans (b6.mono B5.out.size))
                have HA6 := hid (HA5.out.below b6)
                clear hwh n6 b6
                go_wp2_with fail
                refine hsm.mono ?_
                rintro e w7 ⟨rfl, b7⟩
                have hft := faulted_w _ _ _ _ D (0 : Int) w7 (HA6.out.below b7) (by decide)
                rw [show D.fa (0 : Int) = false from hg2] at hft
                have B7 := hid (B6.out.trans (b7.mono B6.out.size))
                clear hsm b7 hg2
                go_wp2_with fail
                refine hft.mono ?_
                rintro e w' ⟨rfl, rfl⟩
                clear hft
                go_wp2_with fail
                go_roundw
                case rel => exact ⟨0 + 1, by omega, by go_num, B7.out⟩
                case measure => simp [RowKit.intOf]
              · by_cases h3 : i = 3
                · subst h3
                  rw [hpk] at hg1 hg2
                  rw [if_neg (by decide), if_pos rfl] at hg1
                  rw [show (!false && decide (3 = 3)) = true from by rfl] at hg2
                  rw [hg1] at hr
                  clear hg1
                  go_wp2_with fail
                  refine hr.mono ?_
                  rintro e w5 ⟨⟨x, _, rfl⟩, b5⟩
                  have hft := faulted_w _ _ _ _ D 3 w5 (HA4.out.below b5) (by decide)
                  rw [show D.fa 3 = true from hg2] at hft
                  have B5 := hid (HBB.out.trans (b5.mono HBB.out.size))
                  clear hr b5 hg2
                  go_wp2_with fail
                  refine hft.mono ?_
                  rintro e w' ⟨rfl, rfl⟩
                  clear hft
                  go_wp2_with fail
                  go_roundw
                  case rel => exact ⟨3 + 1, by omega, by go_num, B5.out⟩
                  case measure => simp [RowKit.intOf]
                · have e0 : ((i : Int) == 0) = false := by rw [beq_eq_false_iff_ne]; omega
                  have e3 : ((i : Int) == 3) = false := by rw [beq_eq_false_iff_ne]; omega
                  rw [hpk] at hg1 hg2
                  rw [if_neg (by decide), if_neg h3, if_neg h0] at hg1
                  rw [show (!false && decide (i = 3)) = false from by rw [decide_eq_false h3]; rfl] at hg2
                  rw [hg1] at hr
                  clear hg1
                  go_wp2_with fail
                  refine hr.mono ?_
                  rintro e w5 ⟨⟨g5, gc5, rfl, n5, _⟩, b5⟩
                  have B5 := hid (HBB.out.trans (b5.mono HBB.out.size))
                  have N5 := hid n5
                  have HA5 := hid (HA4.out.below b5)
                  have hwh := whole_w 0 w5
                  clear hr b5 n5
                  go_wp2_with fail
                  refine hwh.mono ?_
                  rintro e w6 ⟨g6, gc6, rfl, n6, _, b6⟩
                  have hsm := RefW.same_w _ 256 gc5 _ _ 256 gc6 _ w6 (N5.out.below b6) n6
                  rw [decide_eq_true (show List.replicate 256 0 = wh 0 from rfl)] at hsm
                  have B6 := hid (B5.out.trans (b6.mono B5.out.size))
                  have HA6 := hid (HA5.out.below b6)
                  clear hwh n6 b6
                  go_wp2_with fail
                  refine hsm.mono ?_
                  rintro e w7 ⟨rfl, b7⟩
                  have hft := faulted_w _ _ _ _ D (i : Int) w7 (HA6.out.below b7) (fits_nat (by omega))
                  rw [show D.fa (i : Int) = false from hg2] at hft
                  have B7 := hid (B6.out.trans (b7.mono B6.out.size))
                  clear hsm b7 hg2
                  go_wp2_with fail
                  refine hft.mono ?_
                  rintro e w' ⟨rfl, rfl⟩
                  clear hft
                  go_wp2_with fail
                  go_roundw
                  case rel => exact ⟨i + 1, by omega, by go_num, B7.out⟩
                  case measure => simp [RowKit.intOf]; omega
            · rw [hy] at hpk
              by_cases h0 : i = 0
              · subst h0
                try rw [Nat.add_zero] at hz0
                rw [hpk] at hg1 hg2
                simp only [if_true, Bool.not_true, Bool.false_and] at hg1 hg2
                rw [hg1] at hr
                clear hg1
                go_wp2_with fail
                refine hr.mono ?_
                rintro e w5 ⟨⟨g5, gc5, rfl, n5, _⟩, b5⟩
                have B5 := hid (HBB.out.trans (b5.mono HBB.out.size))
                have N5 := hid n5
                have HA5 := hid (HA4.out.below b5)
                have hwh := whole_w B w5
                clear hr b5 n5
                go_wp2_with fail
                refine hwh.mono ?_
                rintro e w6 ⟨g6, gc6, rfl, n6, _, b6⟩
                have hsm := RefW.same_w _ 256 gc5 _ _ 256 gc6 _ w6 (N5.out.below b6) n6
                rw [decide_eq_true (show wh B = wh B from rfl)] at hsm
                have B6 := hid (B5.out.trans (b6.mono B5.out.size))
                have HA6 := hid (HA5.out.below b6)
                clear hwh n6 b6
                go_wp2_with fail
                refine hsm.mono ?_
                rintro e w7 ⟨rfl, b7⟩
                have hft := faulted_w _ _ _ _ D (0 : Int) w7 (HA6.out.below b7) (by decide)
                rw [show D.fa (0 : Int) = false from hg2] at hft
                have B7 := hid (B6.out.trans (b7.mono B6.out.size))
                clear hsm b7 hg2
                go_wp2_with fail
                refine hft.mono ?_
                rintro e w' ⟨rfl, rfl⟩
                clear hft
                go_wp2_with fail
                go_roundw
                case rel => exact ⟨0 + 1, by omega, by go_num, B7.out⟩
                case measure => simp [RowKit.intOf]
              · by_cases h3 : i = 3
                · subst h3
                  rw [hpk] at hg1 hg2
                  simp only [if_true, Bool.not_true, Bool.false_and] at hg1 hg2
                  rw [hg1] at hr
                  clear hg1
                  go_wp2_with fail
                  refine hr.mono ?_
                  rintro e w5 ⟨⟨g5, gc5, rfl, n5, _⟩, b5⟩
                  have B5 := hid (HBB.out.trans (b5.mono HBB.out.size))
                  have N5 := hid n5
                  have HA5 := hid (HA4.out.below b5)
                  have hwh := whole_w B w5
                  clear hr b5 n5
                  go_wp2_with fail
                  refine hwh.mono ?_
                  rintro e w6 ⟨g6, gc6, rfl, n6, _, b6⟩
                  have hsm := RefW.same_w _ 256 gc5 _ _ 256 gc6 _ w6 (N5.out.below b6) n6
                  rw [decide_eq_true (show wh B = wh B from rfl)] at hsm
                  have B6 := hid (B5.out.trans (b6.mono B5.out.size))
                  have HA6 := hid (HA5.out.below b6)
                  clear hwh n6 b6
                  go_wp2_with fail
                  refine hsm.mono ?_
                  rintro e w7 ⟨rfl, b7⟩
                  have hft := faulted_w _ _ _ _ D (3 : Int) w7 (HA6.out.below b7) (by decide)
                  rw [show D.fa (3 : Int) = false from hg2] at hft
                  have B7 := hid (B6.out.trans (b7.mono B6.out.size))
                  clear hsm b7 hg2
                  go_wp2_with fail
                  refine hft.mono ?_
                  rintro e w' ⟨rfl, rfl⟩
                  clear hft
                  go_wp2_with fail
                  go_roundw
                  case rel => exact ⟨3 + 1, by omega, by go_num, B7.out⟩
                  case measure => simp [RowKit.intOf]
                · have e0 : ((i : Int) == 0) = false := by rw [beq_eq_false_iff_ne]; omega
                  have e3 : ((i : Int) == 3) = false := by rw [beq_eq_false_iff_ne]; omega
                  rw [hpk] at hg1 hg2
                  simp only [if_true, Bool.not_true, Bool.false_and] at hg1 hg2
                  rw [hg1] at hr
                  clear hg1
                  go_wp2_with fail
                  refine hr.mono ?_
                  rintro e w5 ⟨⟨g5, gc5, rfl, n5, _⟩, b5⟩
                  have B5 := hid (HBB.out.trans (b5.mono HBB.out.size))
                  have N5 := hid n5
                  have HA5 := hid (HA4.out.below b5)
                  have hwh := whole_w B w5
                  clear hr b5 n5
                  go_wp2_with fail
                  refine hwh.mono ?_
                  rintro e w6 ⟨g6, gc6, rfl, n6, _, b6⟩
                  have hsm := RefW.same_w _ 256 gc5 _ _ 256 gc6 _ w6 (N5.out.below b6) n6
                  rw [decide_eq_true (show wh B = wh B from rfl)] at hsm
                  have B6 := hid (B5.out.trans (b6.mono B5.out.size))
                  have HA6 := hid (HA5.out.below b6)
                  clear hwh n6 b6
                  go_wp2_with fail
                  refine hsm.mono ?_
                  rintro e w7 ⟨rfl, b7⟩
                  have hft := faulted_w _ _ _ _ D (i : Int) w7 (HA6.out.below b7) (fits_nat (by omega))
                  rw [show D.fa (i : Int) = false from hg2] at hft
                  have B7 := hid (B6.out.trans (b7.mono B6.out.size))
                  clear hsm b7 hg2
                  go_wp2_with fail
                  refine hft.mono ?_
                  rintro e w' ⟨rfl, rfl⟩
                  clear hft
                  go_wp2_with fail
                  go_roundw
                  case rel => exact ⟨i + 1, by omega, by go_num, B7.out⟩
                  case measure => simp [RowKit.intOf]; omega
          · have hpk : pick zs i = false := by unfold pick; rw [List.getElem?_eq_none (by omega)]
            have di : decide ((i : Int) < (len : Int)) = false := decide_eq_false (by omega)
            by_cases h0 : i = 0
            · subst h0
              try rw [Nat.add_zero] at hz0
              rw [hpk] at hg1 hg2
              rw [if_neg (by decide), if_neg (by decide), if_pos rfl] at hg1
              rw [show (!false && decide (0 = 3)) = false from by rfl] at hg2
              rw [hg1] at hr
              clear hg1
              go_wp2_with fail
              refine hr.mono ?_
              rintro e w5 ⟨⟨g5, gc5, rfl, n5, _⟩, b5⟩
              have B5 := hid (HBB.out.trans (b5.mono HBB.out.size))
              have N5 := hid n5
              have HA5 := hid (HA4.out.below b5)
              have hwh := whole_w A w5
              clear hr b5 n5
              go_wp2_with fail
              refine hwh.mono ?_
              rintro e w6 ⟨g6, gc6, rfl, n6, _, b6⟩
              have hsm := RefW.same_w _ 256 gc5 _ _ 256 gc6 _ w6 (N5.out.below b6) n6
              rw [decide_eq_true (show wh A = wh A from rfl)] at hsm
              have B6 := hid (B5.out.trans (b6.mono B5.out.size))
              have HA6 := hid (HA5.out.below b6)
              clear hwh n6 b6
              go_wp2_with fail
              refine hsm.mono ?_
              rintro e w7 ⟨rfl, b7⟩
              have hft := faulted_w _ _ _ _ D (0 : Int) w7 (HA6.out.below b7) (by decide)
              rw [show D.fa (0 : Int) = false from hg2] at hft
              have B7 := hid (B6.out.trans (b7.mono B6.out.size))
              clear hsm b7 hg2
              go_wp2_with fail
              refine hft.mono ?_
              rintro e w' ⟨rfl, rfl⟩
              clear hft
              go_wp2_with fail
              go_roundw
              case rel => exact ⟨0 + 1, by omega, by go_num, B7.out⟩
              case measure => simp [RowKit.intOf]
            · by_cases h3 : i = 3
              · subst h3
                rw [hpk] at hg1 hg2
                rw [if_neg (by decide), if_pos rfl] at hg1
                rw [show (!false && decide (3 = 3)) = true from by rfl] at hg2
                rw [hg1] at hr
                clear hg1
                go_wp2_with fail
                refine hr.mono ?_
                rintro e w5 ⟨⟨x, _, rfl⟩, b5⟩
                have hft := faulted_w _ _ _ _ D 3 w5 (HA4.out.below b5) (by decide)
                rw [show D.fa 3 = true from hg2] at hft
                have B5 := hid (HBB.out.trans (b5.mono HBB.out.size))
                clear hr b5 hg2
                go_wp2_with fail
                refine hft.mono ?_
                rintro e w' ⟨rfl, rfl⟩
                clear hft
                go_wp2_with fail
                go_roundw
                case rel => exact ⟨3 + 1, by omega, by go_num, B5.out⟩
                case measure => simp [RowKit.intOf]
              · have e0 : ((i : Int) == 0) = false := by rw [beq_eq_false_iff_ne]; omega
                have e3 : ((i : Int) == 3) = false := by rw [beq_eq_false_iff_ne]; omega
                rw [hpk] at hg1 hg2
                rw [if_neg (by decide), if_neg h3, if_neg h0] at hg1
                rw [show (!false && decide (i = 3)) = false from by rw [decide_eq_false h3]; rfl] at hg2
                rw [hg1] at hr
                clear hg1
                go_wp2_with fail
                refine hr.mono ?_
                rintro e w5 ⟨⟨g5, gc5, rfl, n5, _⟩, b5⟩
                have B5 := hid (HBB.out.trans (b5.mono HBB.out.size))
                have N5 := hid n5
                have HA5 := hid (HA4.out.below b5)
                have hwh := whole_w 0 w5
                clear hr b5 n5
                go_wp2_with fail
                refine hwh.mono ?_
                rintro e w6 ⟨g6, gc6, rfl, n6, _, b6⟩
                have hsm := RefW.same_w _ 256 gc5 _ _ 256 gc6 _ w6 (N5.out.below b6) n6
                rw [decide_eq_true (show List.replicate 256 0 = wh 0 from rfl)] at hsm
                have B6 := hid (B5.out.trans (b6.mono B5.out.size))
                have HA6 := hid (HA5.out.below b6)
                clear hwh n6 b6
                go_wp2_with fail
                refine hsm.mono ?_
                rintro e w7 ⟨rfl, b7⟩
                have hft := faulted_w _ _ _ _ D (i : Int) w7 (HA6.out.below b7) (fits_nat (by omega))
                rw [show D.fa (i : Int) = false from hg2] at hft
                have B7 := hid (B6.out.trans (b7.mono B6.out.size))
                clear hsm b7 hg2
                go_wp2_with fail
                refine hft.mono ?_
                rintro e w' ⟨rfl, rfl⟩
                clear hft
                go_wp2_with fail
                go_roundw
                case rel => exact ⟨i + 1, by omega, by go_num, B7.out⟩
                case measure => simp [RowKit.intOf]; omega
        · obtain rfl : i = 8 := by omega
          have hpe := pending_w _ _ _ _ D wr (H4.out.below hb)
          rw [hnp] at hpe
          have BF := hid (HB1.out.trans ((HB4.out.trans (hb.mono HB4.out.size)).mono HB1.out.size))
          clear hb
          go_wp2_with fail
          refine hpe.mono ?_
          rintro e w' ⟨rfl, rfl⟩
          clear hpe
          go_wp2_with fail
          go_ret
          exact ⟨rfl, BF.out⟩
set_option maxHeartbeats 4000000 in
theorem walk (a0 a1 : Int) (a2 : Option Addr) (len2 cap2 : Nat) (z2 : List Int) (w : World) (hE : Err.All w [3, 0, 2, 1, 4]) (w0 : (Lit.int .u8 a0).wf = true) (w1 : (Lit.int .u8 a1).wf = true) (w2 : IsRow .i64 w a2 len2 cap2 z2) :
    Calls Tryd.prog 5 #[.int .u8 a0, .int .u8 a1, .slice a2 len2 cap2] w fun e w' => e = .returned (.bool true) ∧ Below w.heap.size w w' := by
  obtain ⟨bs, hB⟩ := Ev.of_all hE five rfl (by decide)
  obtain ⟨zs, hz, _⟩ := is_of w2
  obtain ⟨A, rfl⟩ := Int.eq_ofNat_of_zero_le (nat_of rfl w0).1
  obtain ⟨B, rfl⟩ := Int.eq_ofNat_of_zero_le (nat_of rfl w1).1
  by_cases hl : len2 ≤ 16
  · exact few A B a2 len2 cap2 zs bs w hB hz hl
  · obtain ⟨q1, q2⟩ := hz.bound
    have dl : decide ((16 : Int) < (len2 : Int)) = true := decide_eq_true (by omega)
    clear hE w0 w1 w2 hz
    go_enter Tryd.func5, Tryd.ntmps5
    go_wp2_with fail
    refine (first_w bs w hB).mono ?_
    rintro e w1 ⟨rfl, b1⟩
    go_wp2_with fail
    go_ret
    exact ⟨rfl, b1⟩
end Go.Proofs.YtlljpljfmaaejaaDoor.devKeeps
