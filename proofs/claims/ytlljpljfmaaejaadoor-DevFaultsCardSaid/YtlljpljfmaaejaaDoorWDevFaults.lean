/- The walk of DevFaults. -/
import Derived.Test.YtlljpljfmaaejaaDoorDevArm
import Derived.Test.YtlljpljfmaaejaaDoorRefTurned
import Derived.Test.YtlljpljfmaaejaaDoorNumWalk
import Derived.Test.YtlljpljfmaaejaaDoorPickOdd
namespace Go.Proofs.YtlljpljfmaaejaaDoor.devFaults
open Go Go.RowKit Go.Maps Go.Proofs.YtlljpljfmaaejaaDoor.Mem Go.Proofs.YtlljpljfmaaejaaDoor.MapsW Go.Proofs.YtlljpljfmaaejaaDoor.SeeW Go.Proofs.YtlljpljfmaaejaaDoor.DevG Go.Proofs.YtlljpljfmaaejaaDoor.DevL
set_option linter.unusedVariables false
set_option maxRecDepth 100000

/-- block 1 faulted, nothing pending -/
structure Bad (D : Dv) : Prop where
  blocks : D.blocks = 3
  pe : ∀ i, D.pe i = none
  fa : D.fa 1 = true
  np : D.np = 0
  ne : D.ne = 1
  calls : D.calls = 2
  fuse : D.fuse = 0
  down : D.down = false
theorem Bad.may {D : Dv} (h : Bad D) : D.may 1 = false := by
  unfold Dv.may
  rw [h.fa]
  simp
theorem Bad.spoil {D : Dv} (h : Bad D) (at_ : Int) (t : Nat) : D.mayS 1 at_ t = false := by
  unfold Dv.mayS
  rw [h.may]; rfl
theorem Bad.fail {D : Dv} (h : Bad D) : D.fail 1 = D := by
  unfold Dv.fail
  rw [h.may]; rfl
theorem Bad.put {D : Dv} (h : Bad D) (l : List Nat) : (D.put ((1 : Nat) : Int) l).flush.fa 1 = false ∧ (D.put ((1 : Nat) : Int) l).flush.get 1 = .ok l := by
  have e : (D.put ((1 : Nat) : Int) l).pe 1 = some l := upd_same D.pe 1 (some l)
  refine ⟨?_, get_some (D := (D.put ((1 : Nat) : Int) l).flush) h.down ?_ ?_⟩
  · show (if ((D.put ((1 : Nat) : Int) l).pe 1).isSome then false else (D.put ((1 : Nat) : Int) l).fa 1) = false
    rw [e]; rfl
  · show 0 ≤ (1 : Int) ∧ (1 : Int) < ((D.blocks : Nat) : Int)
    rw [h.blocks]; decide
  · show (match (none : Option (List Nat)) with
      | some l => some l
      | none => if (if ((D.put ((1 : Nat) : Int) l).pe 1).isSome then false else (D.put ((1 : Nat) : Int) l).fi 1) then none else some ((if ((D.put ((1 : Nat) : Int) l).pe 1).isSome then (D.put ((1 : Nat) : Int) l).pe 1 else (D.put ((1 : Nat) : Int) l).fl 1).getD _)) = _
    rw [e]; rfl
/-- block 1 written, flushed -/
abbrev laid (l : List Nat) : Dv := ((Dv.new 3).put ((1 : Nat) : Int) l).flush
theorem laid_may (l : List Nat) : (laid l).may 1 = true := rfl
theorem laid_fail (l : List Nat) : Bad ((laid l).fail 1) ∧ ((laid l).fail 1).get 1 = .error 6 := ⟨⟨rfl, fun _ => rfl, rfl, rfl, rfl, rfl, rfl, rfl⟩, rfl⟩
theorem laid_mayS (l : List Nat) (at_ : Int) (t : Nat) (ha : 0 ≤ at_ ∧ at_ ≤ 252) (ht : t ≠ 0) : (laid l).mayS 1 at_ t = true := by
  unfold Dv.mayS
  rw [laid_may, decide_eq_true ⟨ha.1, ha.2, ht⟩]; rfl
theorem laid_spoil (l : List Nat) (at_ : Int) (t : Nat) (ha : 0 ≤ at_ ∧ at_ ≤ 252) (ht : t ≠ 0) : Bad ((laid l).spoil 1 at_ t) ∧ ((laid l).spoil 1 at_ t).get 1 = .ok (Crc.turned l at_ t) := by
  rw [spoil_yes (laid_mayS l at_ t ha ht)]
  exact ⟨⟨rfl, fun _ => rfl, rfl, rfl, rfl, rfl, rfl, rfl⟩, rfl⟩
theorem laid_none (l : List Nat) (at_ : Int) : (laid l).mayS 1 at_ 0 = false := by
  unfold Dv.mayS
  simp
theorem put_mayS (l : List Nat) (at_ : Int) (t : Nat) : ((Dv.new 3).put ((1 : Nat) : Int) l).mayS 1 at_ t = false := rfl

set_option maxHeartbeats 16000000 in
theorem failed (a0 a1 : Int) (t u b : Nat) (bs : List Addr) (w : World) (hB : Ev w w.heap.size bs five) (h0' : -9223372036854775808 ≤ a0 ∧ a0 ≤ 9223372036854775807) (h1 : -9223372036854775808 ≤ a1 ∧ a1 ≤ 9223372036854775807) (hb : b < 256) (ht : t < 4294967296) (hu : u < 4294967296) :
    Calls Tryd.prog 7 #[.int .i64 a0, .int .i64 a1, .int .u32 (t : Int), .int .u32 (u : Int), .bool true, .int .u8 (b : Int)] w fun e w' => e = .returned (.bool true) ∧ Below w.heap.size w w' := by
  obtain ⟨n, hn⟩ := Int.eq_ofNat_of_zero_le (Int.emod_nonneg a0 (show (253 : Int) ≠ 0 by decide))
  have hn2 : n < 253 := by have := Int.emod_lt_of_pos a0 (show (0 : Int) < 253 by decide); omega
  obtain ⟨k, hk⟩ := Int.eq_ofNat_of_zero_le (Int.emod_nonneg a1 (show (253 : Int) ≠ 0 by decide))
  have hk2 : k < 253 := by have := Int.emod_lt_of_pos a1 (show (0 : Int) < 253 by decide); omega
  obtain ⟨c, hc⟩ : ∃ c : Nat, c = (b + 1) % 256 := ⟨_, rfl⟩
  have hc3 : IntKind.u8.wrap ((b : Int) + 1) = (c : Int) := by rw [IntKind.wrap_u8]; omega
  clear hc
  go_enter Tryd.func7, Tryd.ntmps7
  go_wp2_with fail
  refine (first_w bs w hB).mono ?_
  rintro e w1 ⟨rfl, b1⟩
  have HE := hid ((hB.below b1).mono b1.size)
  have HB1 := hid b1
  clear hB b1
  go_wp2_with fail
  refine (NumW.number_w a0 253 _ (by decide) (by decide) h0'.1 h0'.2).mono ?_
  rintro e w' ⟨rfl, rfl⟩
  rw [hn]
  clear hn h0'
  go_wp2_with fail
  refine (NumW.number_w a1 253 _ (by decide) (by decide) h1.1 h1.2).mono ?_
  rintro e w' ⟨rfl, rfl⟩
  rw [hk]
  clear hk h1
  go_wp2_with fail
  refine (new_w 3 w1 (by decide) (by decide)).mono ?_
  rintro e w2 ⟨rfl, h2, b2, z2⟩
  have H2 := hid h2
  have HB2 := hid b2
  have hwh := whole_w b w2
  clear h2 b2 z2
  go_wp2_with fail
  refine hwh.mono ?_
  rintro e w3 ⟨g3, gc3, rfl, n3, hg3, b3⟩
  have h3 := H2.out.below b3
  have B3 := HB2.out.trans (b3.mono HB2.out.size)
  have hw := write_ok _ _ _ _ _ 1 _ gc3 (wh b) w3 h3 (by show 1 < 3; decide) (by show 3 ≤ 6000; decide) n3 (by decide) (by decide) (by decide) rfl
  rw [show (Dv.new 3).tick = Dv.new 3 from rfl] at hw
  have HB3 := hid B3
  have HO3 := hid h3.own_lo
  clear hwh n3 hg3 b3 h3 B3 H2 HB2
  go_wp2_with fail
  refine hw.mono ?_
  rintro e w4 ⟨rfl, h4, t4⟩
  have B4 := hid (HB3.out.trans (t4.below HB3.out.size HO3.out))
  have hsp := spoil_w _ _ _ _ _ 1 (n : Int) t w4 h4 (by decide) (by decide) (fits_nat (by omega)) (by omega) (Crc.zeros_bytes 256)
  rw [put_mayS, spoil_no (put_mayS _ _ _)] at hsp
  have HO4 := hid h4.own_lo
  clear hw h4 t4 HB3 HO3
  go_wp2_with fail
  refine hsp.mono ?_
  rintro e w5 ⟨rfl, h5, t5⟩
  have hnp : ((Dv.new 3).put ((1 : Nat) : Int) (wh b)).np ≤ 1 := put_np_le _ _ _
  have B5 := hid (B4.out.trans (t5.below B4.out.size HO4.out))
  have hfl := flush_ok _ _ _ _ _ w5 h5 (by omega) (by omega) (by show 0 + 1 < 1000000; decide) (Nat.zero_le _) rfl
  rw [show ((Dv.new 3).put ((1 : Nat) : Int) (wh b)).tick.flush = laid (wh b) from rfl] at hfl
  have HO5 := hid h5.own_lo
  clear hsp h5 t5 B4 HO4
  go_wp2_with fail
  refine hfl.mono ?_
  rintro e w6 ⟨rfl, p6, hp6, h6, t6⟩
  have B6 := hid (B5.out.trans (t6.below B5.out.size HO5.out))
  have h6' := h6.mono (n' := 20) (lo' := w1.heap.size) (by omega) (Nat.le_refl _)
  have HO6 := hid h6'.own_lo
  clear hfl h6 t6 B5 HO5 hp6 hnp
  have hfa := fail_w _ _ _ _ _ 1 w6 h6' (by decide) (by decide)
  obtain ⟨bad, hget⟩ := laid_fail (wh b)
  have hbt : Crc.Bytes (keptOf ((laid (wh b)).fail 1) 1) := wh_bytes hb
  rw [laid_may] at hfa
  generalize (laid (wh b)).fail 1 = D at *
  generalize ({ mp w1.heap.size with p := p6 } : Mp) = m at *
  clear h6'
  go_wp2_with fail
  refine hfa.mono ?_
  rintro e w7 ⟨rfl, h7, t7⟩
  have B7 := hid (B6.out.trans (t7.below B6.out.size HO6.out))
  have hft := faulted_w _ _ _ _ _ 1 w7 h7 (by decide)
  rw [bad.fa] at hft
  have hr := read_w bs _ _ _ _ D 1 w7 h7 (HE.out.below B7.out) (by decide)
  rw [hget] at hr
  have H7 := hid h7
  clear hfa h7 t7 B6 hget
  go_wp2_with fail
  refine hft.mono ?_
  rintro e w' ⟨rfl, rfl⟩
  clear hft
  go_wp2_with fail
  refine hr.mono ?_
  rintro e w8 ⟨⟨x, _, rfl⟩, b8⟩
  have h8 := H7.out.below b8
  have B8 := hid (B7.out.trans (b8.mono B7.out.size))
  have hs2 := spoil_w _ _ _ _ D 1 (k : Int) u w8 h8 (by decide) (by decide) (fits_nat (by omega)) hu hbt
  rw [bad.spoil, spoil_no (bad.spoil _ _)] at hs2
  have HO8 := hid h8.own_lo
  clear hr b8 h8 H7 B7
  go_wp2_with fail
  refine hs2.mono ?_
  rintro e w9 ⟨rfl, h9, t9⟩
  have B9 := hid (B8.out.trans (t9.below B8.out.size HO8.out))
  have hf2 := fail_w _ _ _ _ D 1 w9 h9 (by decide) (by decide)
  rw [bad.may, bad.fail] at hf2
  clear hs2 h9 t9 B8
  go_wp2_with fail
  refine hf2.mono ?_
  rintro e w10 ⟨rfl, h10, t10⟩
  have B10 := hid (B9.out.trans (t10.below B9.out.size HO8.out))
  have H10 := hid h10
  clear hf2 h10 t10 B9
  have hwh := whole_w c w10
  go_wp2_with fail
  refine hwh.mono ?_
  rintro e w11 ⟨g11, gc11, rfl, n11, hg11, b11⟩
  have h11 := H10.out.below b11
  have B11 := hid (B10.out.trans (b11.mono B10.out.size))
  have hw := write_ok _ _ _ _ _ 1 _ gc11 (wh c) w11 h11 (by rw [bad.blocks]; decide) (by rw [bad.blocks]; decide) n11 (by decide) (by rw [bad.calls]; decide) (by rw [bad.fuse]; decide) (by rw [Dv.tick_zero bad.fuse]; exact bad.down)
  rw [Dv.tick_zero bad.fuse] at hw
  have HO11 := hid h11.own_lo
  clear hwh n11 hg11 b11 h11
  go_wp2_with fail
  refine hw.mono ?_
  rintro e w12 ⟨rfl, h12, t12⟩
  have B12 := hid (B11.out.trans (t12.below B11.out.size HO11.out))
  have hft := faulted_w _ _ _ _ _ 1 w12 h12 (by decide)
  rw [show (D.put ((1 : Nat) : Int) (wh c)).fa 1 = true from bad.fa] at hft
  have hnp : (D.put ((1 : Nat) : Int) (wh c)).np ≤ 1 := by have := put_np_le D ((1 : Nat) : Int) (wh c); rw [bad.np] at this; exact this
  have hfl := flush_ok _ _ _ _ _ w12 h12 (by decide) (by omega) (by show D.calls + 1 < 1000000; rw [bad.calls]; decide) (by show D.fuse ≤ 1000000; rw [bad.fuse]; decide) (by rw [Dv.tick_zero (show (D.put ((1 : Nat) : Int) (wh c)).fuse = 0 from bad.fuse)]; exact bad.down)
  rw [Dv.tick_zero (show (D.put ((1 : Nat) : Int) (wh c)).fuse = 0 from bad.fuse)] at hfl
  have HO12 := hid h12.own_lo
  clear hw h12 t12 B11
  go_wp2_with fail
  refine hft.mono ?_
  rintro e w' ⟨rfl, rfl⟩
  clear hft
  go_wp2_with fail
  refine hfl.mono ?_
  rintro e w13 ⟨rfl, p13, hp13, h13, t13⟩
  have B13 := hid (B12.out.trans (t13.below B12.out.size HO12.out))
  obtain ⟨hfa2, hget2⟩ := bad.put (wh c)
  have hne2 : (D.put ((1 : Nat) : Int) (wh c)).flush.ne = 1 := bad.ne
  have hft := faulted_w _ _ _ _ _ 1 w13 h13 (by decide)
  rw [hfa2] at hft
  have hr := read_w bs _ _ _ _ _ 1 w13 h13 (HE.out.below B13.out) (by decide)
  rw [hget2] at hr
  generalize (D.put ((1 : Nat) : Int) (wh c)).flush = D5 at *
  have H13 := hid h13
  clear hfl h13 t13 B12
  go_wp2_with fail
  refine hft.mono ?_
  rintro e w' ⟨rfl, rfl⟩
  clear hft
  go_wp2_with fail
  refine hr.mono ?_
  rintro e w14 ⟨⟨g14, gc14, rfl, n14, _⟩, b14⟩
  have H14 := hid (H13.out.below b14)
  have B14 := hid (B13.out.trans (b14.mono B13.out.size))
  have N14 := hid n14
  have hwh := whole_w c w14
  clear hr n14 b14 H13 B13
  go_wp2_with fail
  refine hwh.mono ?_
  rintro e w15 ⟨g15, gc15, rfl, n15, _, b15⟩
  have H15 := hid (H14.out.below b15)
  have B15 := hid (B14.out.trans (b15.mono B14.out.size))
  have hsm := RefW.same_w _ 256 gc14 _ _ 256 gc15 _ w15 (N14.out.below b15) n15
  rw [decide_eq_true (show wh c = wh c from rfl)] at hsm
  clear hwh n15 b15 H14 B14
  go_wp2_with fail
  refine hsm.mono ?_
  rintro e w16 ⟨rfl, b16⟩
  have B16 := hid (B15.out.trans (b16.mono B15.out.size))
  have hev := ever_w _ _ _ _ _ w16 (H15.out.below b16)
  rw [hne2] at hev
  clear hsm b16 H15 B15
  go_wp2_with fail
  refine hev.mono ?_
  rintro e w' ⟨rfl, rfl⟩
  clear hev
  go_wp2_with fail
  go_ret
  exact ⟨rfl, HB1.out.trans (B16.out.mono HB1.out.size)⟩
set_option maxHeartbeats 16000000 in
theorem spoiled (a0 a1 : Int) (t u b : Nat) (bs : List Addr) (w : World) (hB : Ev w w.heap.size bs five) (h0' : -9223372036854775808 ≤ a0 ∧ a0 ≤ 9223372036854775807) (h1 : -9223372036854775808 ≤ a1 ∧ a1 ≤ 9223372036854775807) (hb : b < 256) (ht : t < 4294967296) (hu : u < 4294967296) (h0 : t ≠ 0) :
    Calls Tryd.prog 7 #[.int .i64 a0, .int .i64 a1, .int .u32 (t : Int), .int .u32 (u : Int), .bool false, .int .u8 (b : Int)] w fun e w' => e = .returned (.bool true) ∧ Below w.heap.size w w' := by
  obtain ⟨n, hn⟩ := Int.eq_ofNat_of_zero_le (Int.emod_nonneg a0 (show (253 : Int) ≠ 0 by decide))
  have hn2 : n < 253 := by have := Int.emod_lt_of_pos a0 (show (0 : Int) < 253 by decide); omega
  obtain ⟨k, hk⟩ := Int.eq_ofNat_of_zero_le (Int.emod_nonneg a1 (show (253 : Int) ≠ 0 by decide))
  have hk2 : k < 253 := by have := Int.emod_lt_of_pos a1 (show (0 : Int) < 253 by decide); omega
  have ht0 : ((t : Int) != 0) = true := by rw [bne_iff_ne]; omega
  obtain ⟨c, hc⟩ : ∃ c : Nat, c = (b + 1) % 256 := ⟨_, rfl⟩
  have hc3 : IntKind.u8.wrap ((b : Int) + 1) = (c : Int) := by rw [IntKind.wrap_u8]; omega
  clear hc
  go_enter Tryd.func7, Tryd.ntmps7
  go_wp2_with fail
  refine (first_w bs w hB).mono ?_
  rintro e w1 ⟨rfl, b1⟩
  have HE := hid ((hB.below b1).mono b1.size)
  have HB1 := hid b1
  clear hB b1
  go_wp2_with fail
  refine (NumW.number_w a0 253 _ (by decide) (by decide) h0'.1 h0'.2).mono ?_
  rintro e w' ⟨rfl, rfl⟩
  rw [hn]
  clear hn h0'
  go_wp2_with fail
  refine (NumW.number_w a1 253 _ (by decide) (by decide) h1.1 h1.2).mono ?_
  rintro e w' ⟨rfl, rfl⟩
  rw [hk]
  clear hk h1
  go_wp2_with fail
  refine (new_w 3 w1 (by decide) (by decide)).mono ?_
  rintro e w2 ⟨rfl, h2, b2, z2⟩
  have H2 := hid h2
  have HB2 := hid b2
  have hwh := whole_w b w2
  clear h2 b2 z2
  go_wp2_with fail
  refine hwh.mono ?_
  rintro e w3 ⟨g3, gc3, rfl, n3, hg3, b3⟩
  have h3 := H2.out.below b3
  have B3 := HB2.out.trans (b3.mono HB2.out.size)
  have hw := write_ok _ _ _ _ _ 1 _ gc3 (wh b) w3 h3 (by show 1 < 3; decide) (by show 3 ≤ 6000; decide) n3 (by decide) (by decide) (by decide) rfl
  rw [show (Dv.new 3).tick = Dv.new 3 from rfl] at hw
  have HB3 := hid B3
  have HO3 := hid h3.own_lo
  clear hwh n3 hg3 b3 h3 B3 H2 HB2
  go_wp2_with fail
  refine hw.mono ?_
  rintro e w4 ⟨rfl, h4, t4⟩
  have B4 := hid (HB3.out.trans (t4.below HB3.out.size HO3.out))
  have hsp := spoil_w _ _ _ _ _ 1 (n : Int) t w4 h4 (by decide) (by decide) (fits_nat (by omega)) (by omega) (Crc.zeros_bytes 256)
  rw [put_mayS, spoil_no (put_mayS _ _ _)] at hsp
  have HO4 := hid h4.own_lo
  clear hw h4 t4 HB3 HO3
  go_wp2_with fail
  refine hsp.mono ?_
  rintro e w5 ⟨rfl, h5, t5⟩
  have hnp : ((Dv.new 3).put ((1 : Nat) : Int) (wh b)).np ≤ 1 := put_np_le _ _ _
  have B5 := hid (B4.out.trans (t5.below B4.out.size HO4.out))
  have hfl := flush_ok _ _ _ _ _ w5 h5 (by omega) (by omega) (by show 0 + 1 < 1000000; decide) (Nat.zero_le _) rfl
  rw [show ((Dv.new 3).put ((1 : Nat) : Int) (wh b)).tick.flush = laid (wh b) from rfl] at hfl
  have HO5 := hid h5.own_lo
  clear hsp h5 t5 B4 HO4
  go_wp2_with fail
  refine hfl.mono ?_
  rintro e w6 ⟨rfl, p6, hp6, h6, t6⟩
  have B6 := hid (B5.out.trans (t6.below B5.out.size HO5.out))
  have h6' := h6.mono (n' := 20) (lo' := w1.heap.size) (by omega) (Nat.le_refl _)
  have HO6 := hid h6'.own_lo
  clear hfl h6 t6 B5 HO5 hp6 hnp
  have hfa := spoil_w _ _ _ _ _ 1 (n : Int) t w6 h6' (by decide) (by decide) (fits_nat (by omega)) ht (wh_bytes hb)
  obtain ⟨bad, hget⟩ := laid_spoil (wh b) (n : Int) t (by omega) h0
  have hbt : Crc.Bytes (keptOf ((laid (wh b)).spoil 1 (n : Int) t) 1) := by
    rw [spoil_yes (laid_mayS (wh b) (n : Int) t (by omega) h0)]
    exact Crc.turned_bytes (wh_bytes hb) _ _
  rw [laid_mayS (wh b) (n : Int) t (by omega) h0] at hfa
  generalize (laid (wh b)).spoil 1 (n : Int) t = D at *
  generalize ({ mp w1.heap.size with p := p6 } : Mp) = m at *
  clear h6'
  go_wp2_with fail
  refine hfa.mono ?_
  rintro e w7 ⟨rfl, h7, t7⟩
  have B7 := hid (B6.out.trans (t7.below B6.out.size HO6.out))
  have hft := faulted_w _ _ _ _ _ 1 w7 h7 (by decide)
  rw [bad.fa] at hft
  have hr := read_w bs _ _ _ _ D 1 w7 h7 (HE.out.below B7.out) (by decide)
  rw [hget] at hr
  have H7 := hid h7
  clear hfa h7 t7 B6 hget
  go_wp2_with fail
  refine hft.mono ?_
  rintro e w' ⟨rfl, rfl⟩
  clear hft
  go_wp2_with fail
  refine hr.mono ?_
  rintro e w8 ⟨⟨g8, gc8, rfl, n8, _⟩, b8⟩
  have N8 := hid n8
  clear n8
  have h8 := H7.out.below b8
  have B8 := hid (B7.out.trans (b8.mono B7.out.size))
  have hs2 := spoil_w _ _ _ _ D 1 (k : Int) u w8 h8 (by decide) (by decide) (fits_nat (by omega)) hu hbt
  rw [bad.spoil, spoil_no (bad.spoil _ _)] at hs2
  have HO8 := hid h8.own_lo
  have NO8 := hid h8.nou8
  clear hr b8 h8 H7 B7
  go_wp2_with fail
  refine hs2.mono ?_
  rintro e w9 ⟨rfl, h9, t9⟩
  have B9 := hid (B8.out.trans (t9.below B8.out.size HO8.out))
  have hf2 := fail_w _ _ _ _ D 1 w9 h9 (by decide) (by decide)
  rw [bad.may, bad.fail] at hf2
  have N9 := hid (nums_turn N8.out t9 NO8.out)
  have NO9 := hid h9.nou8
  clear hs2 h9 t9 B8
  go_wp2_with fail
  refine hf2.mono ?_
  rintro e w10 ⟨rfl, h10, t10⟩
  have B10 := hid (B9.out.trans (t10.below B9.out.size HO8.out))
  have H10 := hid h10
  have N10 := hid (nums_turn N9.out t10 NO9.out)
  clear hf2 h10 t10 B9
  have hwh := whole_w b w10
  go_wp2_with fail
  refine hwh.mono ?_
  rintro e wa ⟨ga, gca, rfl, na, hga, ba⟩
  have Ha := hid (H10.out.below ba)
  have Ba := hid (B10.out.trans (ba.mono B10.out.size))
  have Na := hid (N10.out.below ba)
  have htu := CrcL.rturned_w _ 256 gca _ (n : Int) t wa na (wh_bytes hb) (by decide) (by omega) (by omega) ht
  clear hwh hga ba na H10 B10
  go_wp2_with fail
  refine htu.mono ?_
  rintro e wb ⟨v, rfl, own, bb⟩
  obtain ⟨gb, gcb, rfl, nb, _⟩ := row_of own
  have Hb := hid (Ha.out.below bb)
  have Bb := hid (Ba.out.trans (bb.mono Ba.out.size))
  have hsm := RefW.same_w _ 256 gc8 _ _ 256 gcb _ wb (Na.out.below bb) nb
  rw [decide_eq_true rfl] at hsm
  clear htu own nb bb Ha Ba Na
  go_wp2_with fail
  refine hsm.mono ?_
  rintro e wc ⟨rfl, bc⟩
  have Hc := hid (Hb.out.below bc)
  have Bc := hid (Bb.out.trans (bc.mono Bb.out.size))
  clear hsm bc Hb Bb
  have hwh := whole_w c wc
  go_wp2_with fail
  refine hwh.mono ?_
  rintro e w11 ⟨g11, gc11, rfl, n11, hg11, b11⟩
  have h11 := Hc.out.below b11
  have B11 := hid (Bc.out.trans (b11.mono Bc.out.size))
  have hw := write_ok _ _ _ _ _ 1 _ gc11 (wh c) w11 h11 (by rw [bad.blocks]; decide) (by rw [bad.blocks]; decide) n11 (by decide) (by rw [bad.calls]; decide) (by rw [bad.fuse]; decide) (by rw [Dv.tick_zero bad.fuse]; exact bad.down)
  rw [Dv.tick_zero bad.fuse] at hw
  have HO11 := hid h11.own_lo
  clear hwh n11 hg11 b11 h11
  go_wp2_with fail
  refine hw.mono ?_
  rintro e w12 ⟨rfl, h12, t12⟩
  have B12 := hid (B11.out.trans (t12.below B11.out.size HO11.out))
  have hft := faulted_w _ _ _ _ _ 1 w12 h12 (by decide)
  rw [show (D.put ((1 : Nat) : Int) (wh c)).fa 1 = true from bad.fa] at hft
  have hnp : (D.put ((1 : Nat) : Int) (wh c)).np ≤ 1 := by have := put_np_le D ((1 : Nat) : Int) (wh c); rw [bad.np] at this; exact this
  have hfl := flush_ok _ _ _ _ _ w12 h12 (by decide) (by omega) (by show D.calls + 1 < 1000000; rw [bad.calls]; decide) (by show D.fuse ≤ 1000000; rw [bad.fuse]; decide) (by rw [Dv.tick_zero (show (D.put ((1 : Nat) : Int) (wh c)).fuse = 0 from bad.fuse)]; exact bad.down)
  rw [Dv.tick_zero (show (D.put ((1 : Nat) : Int) (wh c)).fuse = 0 from bad.fuse)] at hfl
  have HO12 := hid h12.own_lo
  clear hw h12 t12 B11
  go_wp2_with fail
  refine hft.mono ?_
  rintro e w' ⟨rfl, rfl⟩
  clear hft
  go_wp2_with fail
  refine hfl.mono ?_
  rintro e w13 ⟨rfl, p13, hp13, h13, t13⟩
  have B13 := hid (B12.out.trans (t13.below B12.out.size HO12.out))
  obtain ⟨hfa2, hget2⟩ := bad.put (wh c)
  have hne2 : (D.put ((1 : Nat) : Int) (wh c)).flush.ne = 1 := bad.ne
  have hft := faulted_w _ _ _ _ _ 1 w13 h13 (by decide)
  rw [hfa2] at hft
  have hr := read_w bs _ _ _ _ _ 1 w13 h13 (HE.out.below B13.out) (by decide)
  rw [hget2] at hr
  generalize (D.put ((1 : Nat) : Int) (wh c)).flush = D5 at *
  have H13 := hid h13
  clear hfl h13 t13 B12
  go_wp2_with fail
  refine hft.mono ?_
  rintro e w' ⟨rfl, rfl⟩
  clear hft
  go_wp2_with fail
  refine hr.mono ?_
  rintro e w14 ⟨⟨g14, gc14, rfl, n14, _⟩, b14⟩
  have H14 := hid (H13.out.below b14)
  have B14 := hid (B13.out.trans (b14.mono B13.out.size))
  have N14 := hid n14
  have hwh := whole_w c w14
  clear hr n14 b14 H13 B13
  go_wp2_with fail
  refine hwh.mono ?_
  rintro e w15 ⟨g15, gc15, rfl, n15, _, b15⟩
  have H15 := hid (H14.out.below b15)
  have B15 := hid (B14.out.trans (b15.mono B14.out.size))
  have hsm := RefW.same_w _ 256 gc14 _ _ 256 gc15 _ w15 (N14.out.below b15) n15
  rw [decide_eq_true (show wh c = wh c from rfl)] at hsm
  clear hwh n15 b15 H14 B14
  go_wp2_with fail
  refine hsm.mono ?_
  rintro e w16 ⟨rfl, b16⟩
  have B16 := hid (B15.out.trans (b16.mono B15.out.size))
  have hev := ever_w _ _ _ _ _ w16 (H15.out.below b16)
  rw [hne2] at hev
  clear hsm b16 H15 B15
  go_wp2_with fail
  refine hev.mono ?_
  rintro e w' ⟨rfl, rfl⟩
  clear hev
  go_wp2_with fail
  go_ret
  exact ⟨rfl, HB1.out.trans (B16.out.mono HB1.out.size)⟩
set_option maxHeartbeats 16000000 in
theorem nothing (a0 a1 : Int) ( u b : Nat) (bs : List Addr) (w : World) (hB : Ev w w.heap.size bs five) (h0' : -9223372036854775808 ≤ a0 ∧ a0 ≤ 9223372036854775807) (h1 : -9223372036854775808 ≤ a1 ∧ a1 ≤ 9223372036854775807) (hb : b < 256) (hu : u < 4294967296) :
    Calls Tryd.prog 7 #[.int .i64 a0, .int .i64 a1, .int .u32 ((0 : Nat) : Int), .int .u32 (u : Int), .bool false, .int .u8 (b : Int)] w fun e w' => e = .returned (.bool true) ∧ Below w.heap.size w w' := by
  obtain ⟨n, hn⟩ := Int.eq_ofNat_of_zero_le (Int.emod_nonneg a0 (show (253 : Int) ≠ 0 by decide))
  have hn2 : n < 253 := by have := Int.emod_lt_of_pos a0 (show (0 : Int) < 253 by decide); omega
  obtain ⟨k, hk⟩ := Int.eq_ofNat_of_zero_le (Int.emod_nonneg a1 (show (253 : Int) ≠ 0 by decide))
  have hk2 : k < 253 := by have := Int.emod_lt_of_pos a1 (show (0 : Int) < 253 by decide); omega
  obtain ⟨c, hc⟩ : ∃ c : Nat, c = (b + 1) % 256 := ⟨_, rfl⟩
  have hc3 : IntKind.u8.wrap ((b : Int) + 1) = (c : Int) := by rw [IntKind.wrap_u8]; omega
  clear hc
  go_enter Tryd.func7, Tryd.ntmps7
  go_wp2_with fail
  refine (first_w bs w hB).mono ?_
  rintro e w1 ⟨rfl, b1⟩
  have HE := hid ((hB.below b1).mono b1.size)
  have HB1 := hid b1
  clear hB b1
  go_wp2_with fail
  refine (NumW.number_w a0 253 _ (by decide) (by decide) h0'.1 h0'.2).mono ?_
  rintro e w' ⟨rfl, rfl⟩
  rw [hn]
  clear hn h0'
  go_wp2_with fail
  refine (NumW.number_w a1 253 _ (by decide) (by decide) h1.1 h1.2).mono ?_
  rintro e w' ⟨rfl, rfl⟩
  rw [hk]
  clear hk h1
  go_wp2_with fail
  refine (new_w 3 w1 (by decide) (by decide)).mono ?_
  rintro e w2 ⟨rfl, h2, b2, z2⟩
  have H2 := hid h2
  have HB2 := hid b2
  have hwh := whole_w b w2
  clear h2 b2 z2
  go_wp2_with fail
  refine hwh.mono ?_
  rintro e w3 ⟨g3, gc3, rfl, n3, hg3, b3⟩
  have h3 := H2.out.below b3
  have B3 := HB2.out.trans (b3.mono HB2.out.size)
  have hw := write_ok _ _ _ _ _ 1 _ gc3 (wh b) w3 h3 (by show 1 < 3; decide) (by show 3 ≤ 6000; decide) n3 (by decide) (by decide) (by decide) rfl
  rw [show (Dv.new 3).tick = Dv.new 3 from rfl] at hw
  have HB3 := hid B3
  have HO3 := hid h3.own_lo
  clear hwh n3 hg3 b3 h3 B3 H2 HB2
  go_wp2_with fail
  refine hw.mono ?_
  rintro e w4 ⟨rfl, h4, t4⟩
  have B4 := hid (HB3.out.trans (t4.below HB3.out.size HO3.out))
  have hsp := spoil_w _ _ _ _ _ 1 (n : Int) (0 : Nat) w4 h4 (by decide) (by decide) (fits_nat (by omega)) (by omega) (Crc.zeros_bytes 256)
  rw [put_mayS, spoil_no (put_mayS _ _ _)] at hsp
  have HO4 := hid h4.own_lo
  clear hw h4 t4 HB3 HO3
  go_wp2_with fail
  refine hsp.mono ?_
  rintro e w5 ⟨rfl, h5, t5⟩
  have hnp : ((Dv.new 3).put ((1 : Nat) : Int) (wh b)).np ≤ 1 := put_np_le _ _ _
  have B5 := hid (B4.out.trans (t5.below B4.out.size HO4.out))
  have hfl := flush_ok _ _ _ _ _ w5 h5 (by omega) (by omega) (by show 0 + 1 < 1000000; decide) (Nat.zero_le _) rfl
  rw [show ((Dv.new 3).put ((1 : Nat) : Int) (wh b)).tick.flush = laid (wh b) from rfl] at hfl
  have HO5 := hid h5.own_lo
  clear hsp h5 t5 B4 HO4
  go_wp2_with fail
  refine hfl.mono ?_
  rintro e w6 ⟨rfl, p6, hp6, h6, t6⟩
  have B6 := hid (B5.out.trans (t6.below B5.out.size HO5.out))
  have h6' := h6.mono (n' := 20) (lo' := w1.heap.size) (by omega) (Nat.le_refl _)
  have HO6 := hid h6'.own_lo
  clear hfl h6 t6 B5 HO5 hp6 hnp
  have hfa := spoil_w _ _ _ _ _ 1 (n : Int) 0 w6 h6' (by decide) (by decide) (fits_nat (by omega)) (by decide) (wh_bytes hb)
  rw [laid_none, spoil_no (laid_none _ _)] at hfa
  generalize ({ mp w1.heap.size with p := p6 } : Mp) = m at *
  clear h6'
  go_wp2_with fail
  refine hfa.mono ?_
  rintro e w7 ⟨rfl, h7, t7⟩
  have B7 := hid (B6.out.trans (t7.below B6.out.size HO6.out))
  have hft := faulted_w _ _ _ _ _ 1 w7 h7 (by decide)
  rw [show (laid (wh b)).fa 1 = false from rfl] at hft
  have hev := ever_w _ _ _ _ _ w7 h7
  rw [show (laid (wh b)).ne = 0 from rfl] at hev
  clear hfa h7 t7
  go_wp2_with fail
  refine hft.mono ?_
  rintro e w' ⟨rfl, rfl⟩
  clear hft
  go_wp2_with fail
  refine hev.mono ?_
  rintro e w' ⟨rfl, rfl⟩
  clear hev
  go_wp2_with fail
  go_ret
  exact ⟨rfl, HB1.out.trans (B7.out.mono HB1.out.size)⟩
theorem walk (a0 a1 a2 a3 : Int) (a4 : Bool) (a5 : Int) (w : World) (hE : Err.All w [3, 0, 2, 1, 4]) (w0 : (Lit.int .i64 a0).wf = true) (w1 : (Lit.int .i64 a1).wf = true) (w2 : (Lit.int .u32 a2).wf = true) (w3 : (Lit.int .u32 a3).wf = true) (w5 : (Lit.int .u8 a5).wf = true) :
    Calls Tryd.prog 7 #[.int .i64 a0, .int .i64 a1, .int .u32 a2, .int .u32 a3, .bool a4, .int .u8 a5] w fun e w' => e = .returned (.bool true) ∧ Below w.heap.size w w' := by
  obtain ⟨bs, hB⟩ := Ev.of_all hE five rfl (by decide)
  obtain ⟨h2, h2'⟩ := nat_of rfl w2
  obtain ⟨h3, h3'⟩ := nat_of rfl w3
  obtain ⟨h5, h5'⟩ := nat_of rfl w5
  obtain ⟨t, rfl⟩ := Int.eq_ofNat_of_zero_le h2
  obtain ⟨u, rfl⟩ := Int.eq_ofNat_of_zero_le h3
  obtain ⟨b, rfl⟩ := Int.eq_ofNat_of_zero_le h5
  have ht : t < 4294967296 := by simpa [IntKind.bits] using h2'
  have hu : u < 4294967296 := by simpa [IntKind.bits] using h3'
  have hb : b < 256 := by simpa [IntKind.bits] using h5'
  cases a4
  · by_cases h0 : t = 0
    · subst h0
      exact nothing a0 a1 u b bs w hB (int_of w0) (int_of w1) hb hu
    · exact spoiled a0 a1 t u b bs w hB (int_of w0) (int_of w1) hb ht hu h0
  · exact failed a0 a1 t u b bs w hB (int_of w0) (int_of w1) hb ht hu
end Go.Proofs.YtlljpljfmaaejaaDoor.devFaults
