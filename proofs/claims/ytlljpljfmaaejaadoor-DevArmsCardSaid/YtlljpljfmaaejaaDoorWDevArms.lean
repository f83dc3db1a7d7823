/- The walk of DevArms. -/
import Derived.Test.YtlljpljfmaaejaaDoorDevArm
import Derived.Test.YtlljpljfmaaejaaDoorNumWalk
namespace Go.Proofs.YtlljpljfmaaejaaDoor.devArms
open Go Go.RowKit Go.Maps Go.Proofs.YtlljpljfmaaejaaDoor.Mem Go.Proofs.YtlljpljfmaaejaaDoor.MapsW Go.Proofs.YtlljpljfmaaejaaDoor.SeeW Go.Proofs.YtlljpljfmaaejaaDoor.DevG Go.Proofs.YtlljpljfmaaejaaDoor.DevL
set_option linter.unusedVariables false
set_option maxRecDepth 100000

set_option maxHeartbeats 16000000 in
theorem walk (a0 a1 : Int) (w : World) (hE : Err.All w gl) (w0 : (Lit.int .i64 a0).wf = true) (w1 : (Lit.int .i64 a1).wf = true) :
    Calls Tryd.prog 4 #[.int .i64 a0, .int .i64 a1] w fun e w' => e = .returned (.bool true) ∧ Below w.heap.size w w' := by
  obtain ⟨bs, hB⟩ := bs_of hE
  have h0 := int_of w0
  have h1 := int_of w1
  obtain ⟨n, hn⟩ := Int.eq_ofNat_of_zero_le (Int.emod_nonneg a0 (show (20 : Int) ≠ 0 by decide))
  have hn20 : n < 20 := by have := Int.emod_lt_of_pos a0 (show (0 : Int) < 20 by decide); omega
  obtain ⟨q, hq⟩ := Int.eq_ofNat_of_zero_le (Int.emod_nonneg a1 (show (5 : Int) ≠ 0 by decide))
  have hq5 : q < 5 := by have := Int.emod_lt_of_pos a1 (show (0 : Int) < 5 by decide); omega
  clear hE w0 w1
  go_enter Tryd.func4, Tryd.ntmps4
  go_wp2_with fail
  refine (first_w bs w (ev_of hB _ (by decide))).mono ?_
  rintro e w1 ⟨rfl, b1⟩
  have HE := hid (ev_of (hB.below b1) five (by decide))
  have HS := hid (hB.below b1)
  have HB1 := hid b1
  clear hB b1
  go_wp2_with fail
  refine (NumW.number_w a0 20 _ (by decide) (by decide) h0.1 h0.2).mono ?_
  rintro e w' ⟨rfl, rfl⟩
  rw [hn]
  clear hn h0
  go_wp2_with fail
  refine (NumW.number_w a1 5 _ (by decide) (by decide) h1.1 h1.2).mono ?_
  rintro e w' ⟨rfl, rfl⟩
  rw [hq]
  clear hq h1
  go_wp2_with fail
  refine (new_w 40 w1 (by decide) (by decide)).mono ?_
  rintro e w2 ⟨rfl, h2, b2, z2⟩
  have ha := arm_w _ _ _ _ _ n w2 h2 (by omega)
  have B2 := hid b2
  clear h2 b2
  go_wp2_with fail
  refine ha.mono ?_
  rintro e w3 ⟨rfl, h3, t3⟩
  have B3 := hid (B2.out.trans (t3.below B2.out.size (fun x hx => by rw [List.mem_singleton.1 hx]; omega)))
  have H3 := hid h3
  clear h3 t3 ha z2
  go_wp2_with fail
  generalize hf : (q : Int) + 1 = f at *
  have hf0 : f ≠ 0 := by omega
  have hf1 : 0 < f := by omega
  clear hf hq5
  go_loopw [8] (fun iv wr => ∃ (j : Nat) (m : Mp) (N : Nat) (D : Dv), 1 ≤ j ∧ j ≤ 31 ∧ iv = .int .i64 (j : Int) ∧ N ≤ 100 * (j - 1) ∧ Armed n (j - 1) D ∧ At wr w1.heap.size (w1.heap.size + 5) N m D ∧ Below w1.heap.size w1 wr) (fun iv _ => 31 - (RowKit.intOf iv).toNat)
  case atStart => exact ⟨1, _, 0, _, by omega, by omega, rfl, by omega, Armed.start n, H3.out, B3.out⟩
  case round =>
    clear B2 B3 H3
    obtain ⟨j, m, N, D, hj1, hj, rfl, hN, hA, hD, hb⟩ := hrel
    have HW := hid hb
    have HO := hid hD.own_lo
    by_cases hlt : j ≤ 30
    · obtain ⟨hq1, hq2⟩ := hA.tick
      rw [show j - 1 + 1 = j by omega] at hq2
      have hfz : D.fuse ≤ 1000000 := by rw [hA.fuse]; omega
      have hcl : D.calls < 1000000 := by have := hA.calls; omega
      have hnp : D.np ≤ 30 := by have := hA.np; omega
      have hbl := hA.blocks
      have hby : IntKind.u8.wrap (j : Int) = (j : Int) := by rw [IntKind.wrap_u8]; omega
      clear hq1 hb
      cases hr : ((j : Int) % f == 0)
      · by_cases hn0 : n < 1
        · have d1 : decide ((n : Int) < 1) = true := decide_eq_true (by omega)
          have hdn : D.tick.down = false := hq2.trans (decide_eq_false (by omega))
          have hwh := whole_w j wr
          go_wp2_with fail
          refine hwh.mono ?_
          rintro e w4 ⟨g, gc, rfl, h5, hg5, b4⟩
          have hD4 := hD.below b4
          have B4 := HW.out.trans (b4.mono HW.out.size)
          have hw := write_ok _ _ _ _ D j _ gc (wh j) w4 hD4 (by omega) (by omega) h5 (by omega) hcl hfz hdn
          clear hwh h5 hg5 b4 hD
          go_wp2_with fail
          refine hw.mono ?_
          rintro e w5 ⟨rfl, h6, t6⟩
          have HA6 := hid (hA.put (j : Int) (wh j))
          rw [show j - 1 + 1 = j by omega] at HA6
          have hd6 : (D.tick.put (j : Int) (wh j)).down = false := hdn
          have B6 := hid (B4.trans (t6.below B4.size HO.out))
          have H6 := hid h6
          clear hw h6 t6 B4 hA
          generalize D.tick.put (j : Int) (wh j) = D6 at *
          have hdw := down_w _ _ _ _ D6 w5 H6.out
          have H7 := H6
          have B7 := B6
          clear H6 B6
          rw [hd6] at hdw
          go_wp2_with fail
          refine hdw.mono ?_
          rintro e w' ⟨rfl, rfl⟩
          clear hdw
          go_wp2_with fail
          go_roundw
          case rel => exact ⟨j + 1, _, _, D6, by omega, by omega, by go_num, by omega, HA6.out, H7.out, B7.out⟩
          case measure => simp [RowKit.intOf]; omega
        · by_cases hjn : j < n
          · have d1 : decide ((n : Int) < 1) = false := decide_eq_false (by omega)
            have d2 : decide ((j : Int) < (n : Int)) = true := decide_eq_true (by omega)
            have hdn : D.tick.down = false := hq2.trans (decide_eq_false (by omega))
            have hwh := whole_w j wr
            go_wp2_with fail
            refine hwh.mono ?_
            rintro e w4 ⟨g, gc, rfl, h5, hg5, b4⟩
            have hD4 := hD.below b4
            have B4 := HW.out.trans (b4.mono HW.out.size)
            have hw := write_ok _ _ _ _ D j _ gc (wh j) w4 hD4 (by omega) (by omega) h5 (by omega) hcl hfz hdn
            clear hwh h5 hg5 b4 hD
            go_wp2_with fail
            refine hw.mono ?_
            rintro e w5 ⟨rfl, h6, t6⟩
            have HA6 := hid (hA.put (j : Int) (wh j))
            rw [show j - 1 + 1 = j by omega] at HA6
            have hd6 : (D.tick.put (j : Int) (wh j)).down = false := hdn
            have B6 := hid (B4.trans (t6.below B4.size HO.out))
            have H6 := hid h6
            clear hw h6 t6 B4 hA
            generalize D.tick.put (j : Int) (wh j) = D6 at *
            have hdw := down_w _ _ _ _ D6 w5 H6.out
            have H7 := H6
            have B7 := B6
            clear H6 B6
            rw [hd6] at hdw
            go_wp2_with fail
            refine hdw.mono ?_
            rintro e w' ⟨rfl, rfl⟩
            clear hdw
            go_wp2_with fail
            go_roundw
            case rel => exact ⟨j + 1, _, _, D6, by omega, by omega, by go_num, by omega, HA6.out, H7.out, B7.out⟩
            case measure => simp [RowKit.intOf]; omega
          · have d1 : decide ((n : Int) < 1) = false := decide_eq_false (by omega)
            have d2 : decide ((j : Int) < (n : Int)) = false := decide_eq_false (by omega)
            have hdn : D.tick.down = true := hq2.trans (decide_eq_true (by omega))
            have hwh := whole_w j wr
            go_wp2_with fail
            refine hwh.mono ?_
            rintro e w4 ⟨g, gc, rfl, h5, hg5, b4⟩
            have hD4 := hD.below b4
            have B4 := HW.out.trans (b4.mono HW.out.size)
            have hw := write_no bs _ _ _ _ D (j : Int) (some ⟨g, 0, none⟩) 256 gc w4 hD4 (HE.out.below B4) hfz (fits_nat (by omega)) 5 _ (by decide) rfl (.inl ⟨hdn, rfl⟩)
            clear hwh h5 hg5 b4 hD
            go_wp2_with fail
            refine hw.mono ?_
            rintro e w5 ⟨⟨x, hx, rfl⟩, h6, t6'⟩
            have t6 := own1 (m := m) t6'
            have HA6 := hid hA.still
            rw [show j - 1 + 1 = j by omega] at HA6
            have hd6 : D.tick.down = true := hdn
            have B6 := hid (B4.trans (t6.below B4.size HO.out))
            have H6 := hid h6
            clear hw h6 t6 B4 hA
            generalize D.tick = D6 at *
            have his := is_w bs w5 (HS.out.below B6.out) 5 x hx 106
            go_wp2_with fail
            refine his.mono ?_
            rintro e w6 ⟨rfl, b7⟩
            have hdw := down_w _ _ _ _ D6 w6 (H6.out.below b7)
            have H7 := hid (H6.out.below b7)
            have B7 := hid (B6.out.trans (b7.mono B6.out.size))
            clear his b7 H6 B6
            rw [hd6] at hdw
            go_wp2_with fail
            refine hdw.mono ?_
            rintro e w' ⟨rfl, rfl⟩
            clear hdw
            go_wp2_with fail
            go_roundw
            case rel => exact ⟨j + 1, _, _, D6, by omega, by omega, by go_num, by omega, HA6.out, H7.out, B7.out⟩
            case measure => simp [RowKit.intOf]; omega
      · by_cases hn0 : n < 1
        · have d1 : decide ((n : Int) < 1) = true := decide_eq_true (by omega)
          have hdn : D.tick.down = false := hq2.trans (decide_eq_false (by omega))
          have hw := flush_ok _ _ _ _ D wr hD (by omega) (by omega) hcl hfz hdn
          clear hD
          go_wp2_with fail
          refine hw.mono ?_
          rintro e w5 ⟨rfl, p', hp', h6, t6⟩
          have HA6 := hid hA.flush
          rw [show j - 1 + 1 = j by omega] at HA6
          have hd6 : D.tick.flush.down = false := hdn
          have B6 := hid (HW.out.trans (t6.below HW.out.size HO.out))
          have H6 := hid h6
          clear hw h6 t6 hA
          generalize D.tick.flush = D6 at *
          have hdw := down_w _ _ _ _ D6 w5 H6.out
          have H7 := H6
          have B7 := B6
          clear H6 B6
          rw [hd6] at hdw
          go_wp2_with fail
          refine hdw.mono ?_
          rintro e w' ⟨rfl, rfl⟩
          clear hdw
          go_wp2_with fail
          go_roundw
          case rel => exact ⟨j + 1, _, _, D6, by omega, by omega, by go_num, by omega, HA6.out, H7.out, B7.out⟩
          case measure => simp [RowKit.intOf]; omega
        · by_cases hjn : j < n
          · have d1 : decide ((n : Int) < 1) = false := decide_eq_false (by omega)
            have d2 : decide ((j : Int) < (n : Int)) = true := decide_eq_true (by omega)
            have hdn : D.tick.down = false := hq2.trans (decide_eq_false (by omega))
            have hw := flush_ok _ _ _ _ D wr hD (by omega) (by omega) hcl hfz hdn
            clear hD
            go_wp2_with fail
            refine hw.mono ?_
            rintro e w5 ⟨rfl, p', hp', h6, t6⟩
            have HA6 := hid hA.flush
            rw [show j - 1 + 1 = j by omega] at HA6
            have hd6 : D.tick.flush.down = false := hdn
            have B6 := hid (HW.out.trans (t6.below HW.out.size HO.out))
            have H6 := hid h6
            clear hw h6 t6 hA
            generalize D.tick.flush = D6 at *
            have hdw := down_w _ _ _ _ D6 w5 H6.out
            have H7 := H6
            have B7 := B6
            clear H6 B6
            rw [hd6] at hdw
            go_wp2_with fail
            refine hdw.mono ?_
            rintro e w' ⟨rfl, rfl⟩
            clear hdw
            go_wp2_with fail
            go_roundw
            case rel => exact ⟨j + 1, _, _, D6, by omega, by omega, by go_num, by omega, HA6.out, H7.out, B7.out⟩
            case measure => simp [RowKit.intOf]; omega
          · have d1 : decide ((n : Int) < 1) = false := decide_eq_false (by omega)
            have d2 : decide ((j : Int) < (n : Int)) = false := decide_eq_false (by omega)
            have hdn : D.tick.down = true := hq2.trans (decide_eq_true (by omega))
            have hw := flush_w bs _ _ _ _ D wr hD (HE.out.below HW.out) (by omega) (by omega) hcl hfz
            unfold Dv.flushT at hw
            rw [hdn, if_pos rfl] at hw
            clear hD
            go_wp2_with fail
            refine hw.mono ?_
            rintro e w5 ⟨⟨v, ⟨x, hx, rfl⟩, rfl⟩, p', hp', h6, t6⟩
            have HA6 := hid hA.still
            rw [show j - 1 + 1 = j by omega] at HA6
            have hd6 : D.tick.down = true := hdn
            have B6 := hid (HW.out.trans (t6.below HW.out.size HO.out))
            have H6 := hid h6
            clear hw h6 t6 hA
            generalize D.tick = D6 at *
            have his := is_w bs w5 (HS.out.below B6.out) 5 x hx 106
            go_wp2_with fail
            refine his.mono ?_
            rintro e w6 ⟨rfl, b7⟩
            have hdw := down_w _ _ _ _ D6 w6 (H6.out.below b7)
            have H7 := hid (H6.out.below b7)
            have B7 := hid (B6.out.trans (b7.mono B6.out.size))
            clear his b7 H6 B6
            rw [hd6] at hdw
            go_wp2_with fail
            refine hdw.mono ?_
            rintro e w' ⟨rfl, rfl⟩
            clear hdw
            go_wp2_with fail
            go_roundw
            case rel => exact ⟨j + 1, _, _, D6, by omega, by omega, by go_num, by omega, HA6.out, H7.out, B7.out⟩
            case measure => simp [RowKit.intOf]; omega
    · obtain rfl : j = 31 := by omega
      have hcr := crash_w _ _ _ _ D none 0 0 [] wr hD (fun w' _ => Is.nil w') (by have := hA.np; omega) (by omega)
      have HA := hid hA
      have hbl := hA.blocks
      have hnp := hA.np
      have hcl := hA.calls
      have HX := hid (hA.get 3 (by decide))
      clear hD hb hA
      go_wp2_with fail
      refine hcr.mono ?_
      rintro e w4 ⟨rfl, ks, p', hK, hp', h4, t4⟩
      have B4 := HW.out.trans (t4.below HW.out.size HO.out)
      rw [crash_none] at h4
      have hr := read_w bs _ _ _ _ _ 3 w4 h4 (HE.out.below B4) (by decide)
      obtain ⟨l3, hl3⟩ := HX.out
      have hl3' : ({ D with pe := fun _ => none, np := 0, down := false, fuse := 0 } : Dv).get 3 = .ok l3 := hl3
      rw [hl3'] at hr
      have HB4 := hid B4
      have H4 := hid h4
      clear hcr hK t4 h4 B4 hl3 hl3'
      go_wp2_with fail
      refine hr.mono ?_
      rintro e w5 ⟨⟨g5, gc5, rfl, n5, _⟩, b5⟩
      have B5 := HB4.out.trans (b5.mono HB4.out.size)
      have h5 := H4.out.below b5
      have hdw := down_w _ _ _ _ _ w5 h5
      have H5 := hid h5
      have HB5 := hid B5
      clear hr b5 n5 h5 B5 H4 HB4
      go_wp2_with fail
      refine hdw.mono ?_
      rintro e w' ⟨rfl, rfl⟩
      clear hdw
      have hwh := whole_w 1 w5
      go_wp2_with fail
      refine hwh.mono ?_
      rintro e w6 ⟨g, gc, rfl, n6, hg6, b6⟩
      have h6 := H5.out.below b6
      have B6 := HB5.out.trans (b6.mono HB5.out.size)
      have hw := write_ok _ _ _ _ _ 0 _ gc (wh 1) w6 h6 (by show 0 < D.blocks; omega) (by show D.blocks ≤ 6000; omega) n6 (by omega) (by show D.calls < 1000000; omega) (Nat.zero_le _) rfl
      rw [Dv.tick_zero rfl] at hw
      have HB6 := hid B6
      have HO6 := hid h6.own_lo
      clear hwh n6 hg6 b6 h6 B6 H5 HB5
      go_wp2_with fail
      refine hw.mono ?_
      rintro e w7 ⟨rfl, h7, t7⟩
      have B7 := hid (HB6.out.trans (t7.below HB6.out.size HO6.out))
      have HO7 := hid h7.own_lo
      have hfl := flush_ok _ _ _ _ _ w7 h7 (by omega) (Nat.lt_of_le_of_lt (put_np_le _ _ _) (by show 0 + 1 < 20000; decide)) (by show D.calls + 1 < 1000000; omega) (Nat.zero_le _) rfl
      clear hw h7 t7 HB6 HO6
      go_wp2_with fail
      refine hfl.mono ?_
      rintro e w8 ⟨rfl, p8, hp8, h8, t8⟩
      have B8 := hid (B7.out.trans (t8.below B7.out.size HO7.out))
      clear hfl h8 t8
      go_wp2_with fail
      go_ret
      exact ⟨rfl, HB1.out.trans (B8.out.mono HB1.out.size)⟩
end Go.Proofs.YtlljpljfmaaejaaDoor.devArms
