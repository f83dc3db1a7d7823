/- The walk of DevTwins. -/
import Derived.Test.YtlljpljfmaaejaaDoorDevTwo
import Derived.Test.YtlljpljfmaaejaaDoorNumWalk
import Derived.Test.YtlljpljfmaaejaaDoorPickOdd
namespace Go.Proofs.YtlljpljfmaaejaaDoor.devTwins
open Go Go.RowKit Go.Maps Go.Proofs.YtlljpljfmaaejaaDoor.Mem Go.Proofs.YtlljpljfmaaejaaDoor.MapsW Go.Proofs.YtlljpljfmaaejaaDoor.SeeW Go.Proofs.YtlljpljfmaaejaaDoor.DevG Go.Proofs.YtlljpljfmaaejaaDoor.DevL Go.Proofs.YtlljpljfmaaejaaDoor.Ints
set_option linter.unusedVariables false
set_option maxRecDepth 100000

set_option maxHeartbeats 16000000 in
theorem few (a : Option Addr) (len cap : Nat) (ls : List Int) (b : Option Addr) (len' cap' : Nat) (zs : List Int) (a2 : Int) (bs : List Addr) (w : World) (hB : Ev w w.heap.size bs five) (hl : Is w a len cap ls) (hlw : ∀ x ∈ ls, (Lit.int .i64 x).wf = true) (hz : Is w b len' cap' zs) (h20 : len ≤ 20) (h10 : len' ≤ 10) (h2 : -9223372036854775808 ≤ a2 ∧ a2 ≤ 9223372036854775807) :
    Calls Tryd.prog 6 #[.slice a len cap, .slice b len' cap', .int .i64 a2] w fun e w' => e = .returned (.bool true) ∧ Below w.heap.size w w' := by
  obtain ⟨n, hn⟩ := Int.eq_ofNat_of_zero_le (Int.emod_nonneg a2 (show (8 : Int) ≠ 0 by decide))
  have hn8 : n < 8 := by have := Int.emod_lt_of_pos a2 (show (0 : Int) < 8 by decide); omega
  have d1 : decide ((20 : Int) < (len : Int)) = false := decide_eq_false (by omega)
  have d2 : decide ((10 : Int) < (len' : Int)) = false := decide_eq_false (by omega)
  have hll := hl.len
  obtain ⟨q1, q2⟩ := hl.bound
  go_enter Tryd.func6, Tryd.ntmps6
  go_wp2_with fail
  refine (first_w bs w hB).mono ?_
  rintro e w1 ⟨rfl, b1⟩
  have HE := hid ((hB.below b1).mono b1.size)
  have HB1 := hid b1
  have HZ := hid hz
  have HL := hid hl
  clear hB b1 hz hl
  go_wp2_with fail
  refine (new_w 8 w1 (by decide) (by decide)).mono ?_
  rintro e w2 ⟨rfl, h2', b2, z2⟩
  have H2 := hid h2'
  have HB2 := hid b2
  have Z2 := hid z2
  clear h2' b2 z2
  go_wp2_with fail
  refine (new_w 8 w2 (by decide) (by decide)).mono ?_
  rintro e w3 ⟨rfl, h3, b3, z3⟩
  have H3 := hid (H2.out.below b3)
  have HX3 := hid h3
  have HB3 := hid (HB2.out.trans (b3.mono HB2.out.size))
  have hap : ∀ y ∈ own (w2.heap.size + 5) (mp w2.heap.size), y ∉ own (w1.heap.size + 5) (mp w1.heap.size) := by
    intro y hy hm
    have z2 := Z2.out
    simp only [own, Mp.list, List.mem_cons, List.not_mem_nil, or_false] at hy hm
    omega
  have hw12 : w1.heap.size ≤ w2.heap.size := by have := Z2.out; omega
  clear h3 b3 H2 HB2 z3
  go_wp2_with fail
  refine (NumW.number_w a2 8 _ (by decide) (by decide) h2.1 h2.2).mono ?_
  rintro e w' ⟨rfl, rfl⟩
  rw [hn]
  clear hn h2
  have hf := fail_w _ _ _ _ _ (n : Int) w3 H3.out (fits_nat (by omega)) (by decide)
  have E0 := Eight.start n hn8
  go_wp2_with fail
  refine hf.mono ?_
  rintro e w4 ⟨rfl, h4, t4⟩
  have B4 := hid (HB3.out.trans (t4.below HB3.out.size H3.out.own_lo))
  have HX4 := hid (HX3.out.aside H3.out t4 hap)
  have H4 := hid h4
  have HAP := hid hap
  have HE0 := hid E0
  generalize (Dv.new 8).fail (n : Int) = D0 at *
  generalize (Dv.new 8).may (n : Int) = u0 at *
  clear hf h4 t4 H3 HB3 HX3 hap E0
  go_wp2_with fail
  go_loopw [12] (fun iv wr => ∃ (i : Nat) (m : Mp) (N : Nat) (D : Dv), i ≤ len ∧ iv = .int .i64 (i : Int) ∧ N ≤ 3 + 100 * i ∧ Eight i D ∧ At wr w1.heap.size (w1.heap.size + 5) N m D ∧ At wr w2.heap.size (w2.heap.size + 5) 0 (mp w2.heap.size) (Dv.new 8) ∧ (∀ y ∈ own (w2.heap.size + 5) (mp w2.heap.size), y ∉ own (w1.heap.size + 5) m) ∧ Below w1.heap.size w1 wr) (fun iv _ => len - (RowKit.intOf iv).toNat)
  case atStart => exact ⟨0, _, 3, _, by omega, rfl, by omega, HE0.out, H4.out, HX4.out, HAP.out, B4.out⟩
  case round =>
    clear B4 HX4 H4 HAP HE0
    obtain ⟨i, m, N, D, hi, rfl, hN, h8, hD, hX, hap, hb⟩ := hrel
    have HW := hid hb
    have HO := hid hD.own_lo
    have HAP := hid hap
    by_cases hlt : i < len
    · have hil : i < ls.length := by omega
      have hL := HL.out.below (HB1.out.trans (hb.mono HB1.out.size))
      obtain ⟨b0, o0, rfl, hc0⟩ := hL.at hil
      have hxw := int_of (hlw _ (List.getElem_mem hil))
      generalize ls[i] = x at *
      obtain ⟨k, hk⟩ := Int.eq_ofNat_of_zero_le (Int.emod_nonneg x (show (8 : Int) ≠ 0 by decide))
      have hk8 : k < 8 := by have := Int.emod_lt_of_pos x (show (0 : Int) < 8 by decide); omega
      obtain ⟨j, hj⟩ : ∃ j : Nat, j = i + 1 := ⟨_, rfl⟩
      have hj2 : (j : Int) = (i : Int) + 1 := by omega
      have hby : IntKind.u8.wrap ((i : Int) + 1) = (j : Int) := by rw [IntKind.wrap_u8]; omega
      clear hj hj2 hL hap
      have HD := hid hD
      have HX := hid hX
      clear hD hX hb
      go_wp2_with fail
      refine (NumW.number_w x 8 _ (by decide) (by decide) hxw.1 hxw.2).mono ?_
      rintro e w' ⟨rfl, rfl⟩
      rw [hk]
      clear hk hxw
      have hwh := whole_w j wr
      go_wp2_with fail
      refine hwh.mono ?_
      rintro e w5 ⟨g, gc, rfl, n5, hg5, b5⟩
      have hD5 := HD.out.below b5
      have HX5 := hid (HX.out.below b5)
      have B5 := hid (HW.out.trans (b5.mono HW.out.size))
      have hw := write_ok _ _ _ _ D k _ gc (wh j) w5 hD5 (by rw [h8.blocks]; exact hk8) (by rw [h8.blocks]; decide) n5 (by omega) (by have := h8.calls; omega) (by rw [h8.fuse]; decide) (by rw [Dv.tick_zero h8.fuse]; exact h8.down)
      rw [Dv.tick_zero h8.fuse] at hw
      have HD5 := hid hD5
      clear hwh n5 hg5 b5 hD5 HX HD
      go_wp2_with fail
      refine hw.mono ?_
      rintro e w6 ⟨rfl, h6, t6⟩
      have B6 := hid (B5.out.trans (t6.below B5.out.size HO.out))
      have HX6 := hid (HX5.out.aside HD5.out t6 HAP.out)
      have H6 := hid h6
      clear hw h6 t6 B5 HX5 HD5
      cases hm4 : ((i : Int) % 4 == 3)
      · have h9 := hid (h8.put (k : Int) (wh j))
        generalize D.put (k : Int) (wh j) = D6 at *
        go_wp2_with fail
        go_roundw
        case rel => exact ⟨i + 1, _, _, _, by omega, by go_num, by omega, h9.out, H6.out, HX6.out, HAP.out, B6.out⟩
        case measure => simp [RowKit.intOf]; omega
      · have h9 := hid (h8.putFlush (k : Int) (wh j))
        have hu6 : (D.put (k : Int) (wh j)).down = false := h8.down
        have hz6 : (D.put (k : Int) (wh j)).fuse = 0 := h8.fuse
        have hc6 : (D.put (k : Int) (wh j)).calls < 1000000 := by show D.calls + 1 < _; have := h8.calls; omega
        have hp6 : (D.put (k : Int) (wh j)).np ≤ 21 := by have := put_np_le D (k : Int) (wh j); have := h8.np; omega
        have hfl := flush_ok _ _ _ _ _ w6 H6.out (by omega) (by omega) hc6 (by rw [hz6]; decide) (by rw [Dv.tick_zero hz6]; exact hu6)
        rw [Dv.tick_zero hz6] at hfl
        generalize D.put (k : Int) (wh j) = D6 at *
        go_wp2_with fail
        refine hfl.mono ?_
        rintro e w7 ⟨rfl, p7, hp7, h7, t7⟩
        have B7 := hid (B6.out.trans (t7.below B6.out.size HO.out))
        have HX7 := hid (HX6.out.aside H6.out t7 HAP.out)
        have HAP7 := hid (apart_p (p := p7) HAP.out (fun y hy => Nat.lt_of_lt_of_le (HX6.out.olds y hy) hp7))
        have H7 := hid h7
        clear hfl h7 t7
        go_wp2_with fail
        go_roundw
        case rel => exact ⟨i + 1, _, _, _, by omega, by go_num, by omega, h9.out, H7.out, HX7.out, HAP7.out, B7.out⟩
        case measure => simp [RowKit.intOf]; omega
    · obtain rfl : i = len := by omega
      have hcl := clone_w _ _ _ _ D wr hD
      have HD := hid hD
      have HX := hid hX
      clear hD hX hb hap
      go_wp2_with fail
      refine hcl.mono ?_
      rintro e w5 ⟨c, mc, rfl, hC, b5⟩
      have HD5 := hid (HD.out.below b5)
      have HX5 := hid (HX.out.below b5)
      have HC5 := hid hC
      have B5 := hid (HW.out.trans (b5.mono HW.out.size))
      have AC := hid (show ∀ y ∈ own (w1.heap.size + 5) m, y ∉ own c mc from fun y hy hm => by
        have h1 := HD.out.olds y hy
        have h2 := HC5.out.own_lo y hm
        omega)
      have AX := hid (show ∀ y ∈ own (w2.heap.size + 5) (mp w2.heap.size), y ∉ own c mc from fun y hy hm => by
        have h1 := HX.out.olds y hy
        have h2 := HC5.out.own_lo y hm
        omega)
      have p1 := pending_w _ _ _ _ D w5 HC5.out
      have p2 := pending_w _ _ _ _ D w5 HD5.out
      have p3 := calls_w _ _ _ _ D w5 HC5.out
      have p4 := calls_w _ _ _ _ D w5 HD5.out
      have p5 := faulted_w _ _ _ _ D (n : Int) w5 HC5.out (fits_nat (by omega))
      have p6 := faulted_w _ _ _ _ D (n : Int) w5 HD5.out (fits_nat (by omega))
      have p7 := ever_w _ _ _ _ D w5 HC5.out
      rw [h8.ne] at p7
      have hnp := h8.np
      have hblk := h8.blocks
      generalize D.np = NP at p1 p2
      generalize D.calls = NC at p3 p4
      generalize D.fa (n : Int) = FA at p5 p6
      clear hcl hC b5 HD HX
      go_wp2_with fail
      refine p1.mono ?_
      rintro e w' ⟨rfl, rfl⟩
      go_wp2_with fail
      refine p2.mono ?_
      rintro e w' ⟨rfl, rfl⟩
      clear p1 p2
      go_wp2_with fail
      refine p3.mono ?_
      rintro e w' ⟨rfl, rfl⟩
      go_wp2_with fail
      refine p4.mono ?_
      rintro e w' ⟨rfl, rfl⟩
      clear p3 p4
      go_wp2_with fail
      refine p5.mono ?_
      rintro e w' ⟨rfl, rfl⟩
      go_wp2_with fail
      refine p6.mono ?_
      rintro e w' ⟨rfl, rfl⟩
      clear p5 p6
      go_wp2_with fail
      refine p7.mono ?_
      rintro e w' ⟨rfl, rfl⟩
      clear p7
      have hcr := crash_w _ _ _ _ D b len' cap' zs w5 HD5.out (fun w' t => HZ.out.below (HB1.out.trans ((B5.out.trans (t.below B5.out.size HO.out)).mono HB1.out.size))) (by omega) (by omega)
      go_wp2_with fail
      refine hcr.mono ?_
      rintro e w6 ⟨rfl, ks, p6, hK, hp6, h6, t6⟩
      have B6 := hid (B5.out.trans (t6.below B5.out.size HO.out))
      have HX6 := hid (HX5.out.aside HD5.out t6 HAP.out)
      have HC6 := hid (HC5.out.aside HD5.out t6 (apart_flip AC.out))
      have H6 := hid h6
      have AC6 := hid (apart_flip (apart_p (p := p6) (apart_flip AC.out) (fun y hy => Nat.lt_of_lt_of_le (HC5.out.olds y hy) hp6)))
      have HK := hid hK
      have sz5 := B5.out.size
      have hcw : w1.heap.size ≤ wr.heap.size := HW.out.size
      clear hcr hK h6 t6 HX5 HC5 HD5 AC
      have hcr := crash_w _ _ _ _ D b len' cap' zs w6 HC6.out (fun w' t => HZ.out.below (HB1.out.trans ((B6.out.trans (t.below B6.out.size (fun x hx => Nat.le_trans hcw (HC6.out.own_lo x hx)))).mono HB1.out.size))) (by omega) (by omega)
      go_wp2_with fail
      refine hcr.mono ?_
      rintro e w7 ⟨rfl, ks', p7, hK', hp7, h7, t7⟩
      obtain rfl := keys_same HK.out hK'
      have B7 := hid (B6.out.trans (t7.below B6.out.size (fun x hx => Nat.le_trans hcw (HC6.out.own_lo x hx))))
      have HX7 := hid (HX6.out.aside HC6.out t7 AX.out)
      have HD7 := hid (H6.out.aside HC6.out t7 AC6.out)
      have HC7 := hid h7
      have HG := hid (fun i hi => Eight.get (D := D.crash ks zs) (show D.blocks = 8 from hblk) rfl i hi)
      generalize D.crash ks zs = D' at *
      clear hcr hK' h7 t7 HX6 HC6 H6 AC6 HK B6 hp7 hp6 h8 HO AX HAP
      go_wp2_with fail
      go_loopw [14] (fun iv wr => ∃ k : Nat, k ≤ 8 ∧ iv = .int .i64 (k : Int) ∧ Below w7.heap.size w7 wr) (fun iv _ => 8 - (RowKit.intOf iv).toNat)
      case atStart => exact ⟨0, by omega, rfl, Below.refl _ _⟩
      case round =>
        obtain ⟨k, hk, rfl, hbb⟩ := hrel
        by_cases hlt2 : k < 8
        · have HF := hid (fits_nat (i := k) (by omega))
          rename World => wk
          have HBB := hid hbb
          have hr1 := read_w bs _ _ _ _ D' (k : Int) _ (HD7.out.below hbb) (HE.out.below (B7.out.trans (hbb.mono B7.out.size))) HF.out
          have hx0 : (Dv.new 8).get (k : Int) = .ok (wh 0) := get_some rfl (by show 0 ≤ (k : Int) ∧ (k : Int) < ((8 : Nat) : Int); omega) rfl
          rcases HG.out k hlt2 with ⟨l, hl⟩ | hl
          · rw [hl] at hr1
            clear hbb
            go_wp2_with fail
            refine hr1.mono ?_
            rintro e w8 ⟨⟨g8, gc8, rfl, n8, _⟩, b8⟩
            have N8 := hid n8
            have B8 := hid (HBB.out.trans (b8.mono HBB.out.size))
            have hr2 := read_w bs _ _ _ _ D' (k : Int) w8 (HC7.out.below B8.out) ((HE.out.below (B7.out.trans (B8.out.mono B7.out.size))).mono (by omega)) HF.out
            rw [hl] at hr2
            clear hr1 b8 n8
            go_wp2_with fail
            refine hr2.mono ?_
            rintro e w9 ⟨⟨g9, gc9, rfl, n9, _⟩, b9⟩
            have N8b := hid (N8.out.below b9)
            have N9 := hid n9
            have B9 := hid (B8.out.trans (b9.mono B8.out.size))
            have hr3 := read_w bs _ _ _ _ (Dv.new 8) (k : Int) w9 (HX7.out.below B9.out) ((HE.out.below (B7.out.trans (B9.out.mono B7.out.size))).mono (by omega)) HF.out
            rw [hx0] at hr3
            clear hr2 b9 n9 N8
            go_wp2_with fail
            refine hr3.mono ?_
            rintro e w10 ⟨⟨g10, gc10, rfl, n10, _⟩, b10⟩
            have B10 := hid (B9.out.trans (b10.mono B9.out.size))
            have N10 := hid n10
            have sm1 := fun (w' : World) (hb : Below w10.heap.size w10 w') => RefW.same_w _ 256 gc8 _ _ 256 gc9 _ w' ((N8b.out.below b10).below hb) ((N9.out.below b10).below hb)
            simp only [decide_true] at sm1
            have wh0 : ∀ w' : World, Calls Tryd.prog 27 #[.int .u8 0] w' (BlobW.NewBlock w' (wh 0)) := fun w' => whole_w 0 w'
            have sm2 := fun (w' : World) (g gc : Nat) (hb : Below w10.heap.size w10 w') (hn : Nums .u8 w' (some ⟨g, 0, none⟩) 256 gc (wh 0)) => RefW.same_w _ 256 gc10 (wh 0) _ 256 gc (wh 0) w' (N10.out.below hb) hn
            simp only [decide_true] at sm2
            have ft := fun (w' : World) (hb : Below w10.heap.size w10 w') => faulted_w _ _ _ _ (Dv.new 8) (k : Int) w' (HX7.out.below (B10.out.trans (hb.mono B10.out.size))) HF.out
            rw [show (Dv.new 8).fa (k : Int) = false from rfl] at ft
            clear hr3 b10 n10 hx0
            go_wp2_with fail
            go_region_held3 (fun w' => True) (first | exact trivial | go_keep)
                  (first
                    | (go_at_call 31; refine (sm2 _ _ _ B12 n12).mono ?_; rintro e w13 ⟨rfl, b13⟩; have B13 := B12.trans (b13.mono B12.size))
                    | (go_at_call 31; refine (sm1 _ (Below.refl _ _).drew).mono ?_; rintro e w11 ⟨rfl, b11⟩; have B11 := (Below.refl w10.heap.size w10).drew.trans b11)
                    | (go_at_call 27; refine (wh0 _).mono ?_; rintro e w12 ⟨g12, gc12, rfl, n12, _, b12⟩; have B12 := B11.trans (b12.mono B11.size))
                    | (go_at_call 24; refine (ft _ B13).mono ?_; rintro e w14 ⟨rfl, rfl⟩))
            have BF := hid (B10.out.trans (B13.mono B10.out.size))
            clear sm1 wh0 sm2 ft
            go_wp2_with fail
            go_roundw
            case rel => exact ⟨k + 1, by omega, by go_num, BF.out⟩
            case measure => simp [RowKit.intOf]; omega
          · rw [hl] at hr1
            clear hbb
            go_wp2_with fail
            refine hr1.mono ?_
            rintro e w8 ⟨⟨x8, hx8, rfl⟩, b8⟩
            have B8 := hid (HBB.out.trans (b8.mono HBB.out.size))
            have hr2 := read_w bs _ _ _ _ D' (k : Int) w8 (HC7.out.below B8.out) ((HE.out.below (B7.out.trans (B8.out.mono B7.out.size))).mono (by omega)) HF.out
            rw [hl] at hr2
            clear hr1 b8
            go_wp2_with fail
            refine hr2.mono ?_
            rintro e w9 ⟨⟨x9, hx9, rfl⟩, b9⟩
            have B9 := hid (B8.out.trans (b9.mono B8.out.size))
            have hr3 := read_w bs _ _ _ _ (Dv.new 8) (k : Int) w9 (HX7.out.below B9.out) ((HE.out.below (B7.out.trans (B9.out.mono B7.out.size))).mono (by omega)) HF.out
            rw [hx0] at hr3
            clear hr2 b9
            go_wp2_with fail
            refine hr3.mono ?_
            rintro e w10 ⟨⟨g10, gc10, rfl, n10, _⟩, b10⟩
            have B10 := hid (B9.out.trans (b10.mono B9.out.size))
            have N10 := hid n10
            have sm1 := fun (w' : World) (hb : Below w10.heap.size w10 w') => RefW.same_w none 0 0 [] none 0 0 [] w' (Nums.nil _ _) (Nums.nil _ _)
            simp only [decide_true] at sm1
            have wh0 : ∀ w' : World, Calls Tryd.prog 27 #[.int .u8 0] w' (BlobW.NewBlock w' (wh 0)) := fun w' => whole_w 0 w'
            have sm2 := fun (w' : World) (g gc : Nat) (hb : Below w10.heap.size w10 w') (hn : Nums .u8 w' (some ⟨g, 0, none⟩) 256 gc (wh 0)) => RefW.same_w _ 256 gc10 (wh 0) _ 256 gc (wh 0) w' (N10.out.below hb) hn
            simp only [decide_true] at sm2
            have ft := fun (w' : World) (hb : Below w10.heap.size w10 w') => faulted_w _ _ _ _ (Dv.new 8) (k : Int) w' (HX7.out.below (B10.out.trans (hb.mono B10.out.size))) HF.out
            rw [show (Dv.new 8).fa (k : Int) = false from rfl] at ft
            clear hr3 b10 n10 hx0
            go_wp2_with fail
            go_region_held3 (fun w' => True) (first | exact trivial | go_keep)
                  (first
                    | (go_at_call 31; refine (sm2 _ _ _ B12 n12).mono ?_; rintro e w13 ⟨rfl, b13⟩; have B13 := B12.trans (b13.mono B12.size))
                    | (go_at_call 31; refine (sm1 _ (Below.refl _ _).drew).mono ?_; rintro e w11 ⟨rfl, b11⟩; have B11 := (Below.refl w10.heap.size w10).drew.trans b11)
                    | (go_at_call 27; refine (wh0 _).mono ?_; rintro e w12 ⟨g12, gc12, rfl, n12, _, b12⟩; have B12 := B11.trans (b12.mono B11.size))
                    | (go_at_call 24; refine (ft _ B13).mono ?_; rintro e w14 ⟨rfl, rfl⟩))
            have BF := hid (B10.out.trans (B13.mono B10.out.size))
            clear sm1 wh0 sm2 ft
            go_wp2_with fail
            go_roundw
            case rel => exact ⟨k + 1, by omega, by go_num, BF.out⟩
            case measure => simp [RowKit.intOf]; omega
        · obtain rfl : k = 8 := by omega
          rename World => wk
          have HX8 := hid (HX7.out.below hbb)
          have p3 := calls_w _ _ _ _ (Dv.new 8) _ HX8.out
          have p7 := ever_w _ _ _ _ (Dv.new 8) _ HX8.out
          rw [show (Dv.new 8).calls = 0 from rfl] at p3
          rw [show (Dv.new 8).ne = 0 from rfl] at p7
          have BF := hid (HB1.out.trans ((B7.out.trans (hbb.mono B7.out.size)).mono HB1.out.size))
          clear hbb
          go_wp2_with fail
          refine p3.mono ?_
          rintro e w' ⟨rfl, rfl⟩
          clear p3
          go_wp2_with fail
          refine p7.mono ?_
          rintro e w' ⟨rfl, rfl⟩
          clear p7
          go_wp2_with fail
          go_ret
          exact ⟨rfl, BF.out⟩
set_option maxHeartbeats 4000000 in
theorem walk (a0 : Option Addr) (len0 cap0 : Nat) (z0 : List Int) (a1 : Option Addr) (len1 cap1 : Nat) (z1 : List Int) (a2 : Int) (w : World) (hE : Err.All w [3, 0, 2, 1, 4]) (w0 : IsRow .i64 w a0 len0 cap0 z0) (w1 : IsRow .i64 w a1 len1 cap1 z1) (w2 : (Lit.int .i64 a2).wf = true) :
    Calls Tryd.prog 6 #[.slice a0 len0 cap0, .slice a1 len1 cap1, .int .i64 a2] w fun e w' => e = .returned (.bool true) ∧ Below w.heap.size w w' := by
  obtain ⟨bs, hB⟩ := Ev.of_all hE five rfl (by decide)
  obtain ⟨ls, hl, hlw⟩ := is_of w0
  obtain ⟨zs, hz, _⟩ := is_of w1
  obtain ⟨q1, q2⟩ := hl.bound
  obtain ⟨q3, q4⟩ := hz.bound
  have h2 := int_of w2
  by_cases h20 : len0 ≤ 20
  · by_cases h10 : len1 ≤ 10
    · exact few a0 len0 cap0 ls a1 len1 cap1 zs a2 bs w hB hl hlw hz h20 h10 h2
    · have d1 : decide ((20 : Int) < (len0 : Int)) = false := decide_eq_false (by omega)
      have d2 : decide ((10 : Int) < (len1 : Int)) = true := decide_eq_true (by omega)
      clear hE w0 w1 w2 hz hl hlw
      go_enter Tryd.func6, Tryd.ntmps6
      go_wp2_with fail
      refine (first_w bs w hB).mono ?_
      rintro e w1 ⟨rfl, b1⟩
      go_wp2_with fail
      go_ret
      exact ⟨rfl, b1⟩
  · have d1 : decide ((20 : Int) < (len0 : Int)) = true := decide_eq_true (by omega)
    clear hE w0 w1 w2 hz hl hlw
    go_enter Tryd.func6, Tryd.ntmps6
    go_wp2_with fail
    refine (first_w bs w hB).mono ?_
    rintro e w1 ⟨rfl, b1⟩
    go_wp2_with fail
    go_ret
    exact ⟨rfl, b1⟩
end Go.Proofs.YtlljpljfmaaejaaDoor.devTwins
