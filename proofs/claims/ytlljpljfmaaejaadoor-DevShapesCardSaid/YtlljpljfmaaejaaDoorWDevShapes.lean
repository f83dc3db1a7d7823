/- The walk of DevShapes. -/
import Derived.Test.YtlljpljfmaaejaaDoorDevWhole
import Derived.Test.YtlljpljfmaaejaaDoorNumWalk
namespace Go.Proofs.YtlljpljfmaaejaaDoor.devShapes
open Go Go.RowKit Go.Maps Go.Proofs.YtlljpljfmaaejaaDoor.Mem Go.Proofs.YtlljpljfmaaejaaDoor.MapsW Go.Proofs.YtlljpljfmaaejaaDoor.SeeW Go.Proofs.YtlljpljfmaaejaaDoor.DevG Go.Proofs.YtlljpljfmaaejaaDoor.DevL
set_option linter.unusedVariables false
set_option maxRecDepth 100000

set_option maxHeartbeats 6400000 in
theorem inside (i : Int) (a1 : Int) (bs : List Addr) (w : World) (hB : Bs w bs) (hi : 0 ≤ i ∧ i < 5) (h1 : -9223372036854775808 ≤ a1 ∧ a1 ≤ 9223372036854775807) (hn : a1 % 520 = 256) :
    Calls Tryd.prog 3 #[.int .i64 i, .int .i64 a1] w fun e w' => e = .returned (.bool true) ∧ Below w.heap.size w w' := by
  have hfi : Fits i := by unfold Fits; omega
  obtain ⟨j, rfl⟩ := Int.eq_ofNat_of_zero_le hi.1
  have hj : j < 5 := by omega
  have hd : decide ((j : Int) < 5) = true := decide_eq_true (by omega)
  clear hi
  go_enter Tryd.func3, Tryd.ntmps3
  go_wp2_with fail
  refine (first_w bs w (ev_of hB _ (by decide))).mono ?_
  rintro e w1 ⟨rfl, b1⟩
  have HBs := hid (hB.below b1)
  have HB1 := hid b1
  clear hB b1
  go_wp2_with fail
  refine (NumW.number_w a1 520 _ (by decide) (by decide) h1.1 h1.2).mono ?_
  rintro e w' ⟨rfl, rfl⟩
  rw [hn]
  clear hn h1
  go_wp2_with fail
  refine (new_w 5 w1 (by decide) (by decide)).mono ?_
  rintro e w2 ⟨rfl, h2, b2, z2⟩
  have L2 := hid h2.own_lo
  have HB2 := hid b2
  have HH2 := hid h2
  clear h2 b2 z2
  go_wp2_with (at_make; go_must (refine wpList_mkn RefW.elU8 rfl _ _ rfl w2.heap.size _ _ _ _ 256 rfl rfl rfl rfl (by decide) (by decide) (Nat.le_refl _) ?_); intro w3 own3 hg3)
  rw [RefW.made_nums] at own3
  have b3 := below_growns hg3 (Nat.le_refl _)
  have n3 : Nums .u8 w3 (some ⟨w2.heap.size, 0, none⟩) 256 256 (List.replicate 256 0) := OwnN.nums own3
  have h3 := HH2.out.below b3
  have B3 := HB2.out.trans (b3.mono HB2.out.size)
  have hw := write_ok _ _ _ _ _ j _ 256 (List.replicate 256 0) w3 h3 (by show j < 5; omega) (by decide) n3 (by decide) (by decide) (by decide) rfl
  rw [show (Dv.new 5).tick = Dv.new 5 from rfl] at hw
  have D4 := hid (show ∃ D4, D4 = (Dv.new 5).put (j : Int) (List.replicate 256 0) from ⟨_, rfl⟩)
  clear own3 hg3 b3 n3 h3
  go_wp2_with fail
  refine hw.mono ?_
  rintro e w4 ⟨rfl, h4, t4⟩
  have B4 := B3.trans (t4.below B3.size L2.out)
  have H4 := hid h4
  have HB4 := hid B4
  clear hw t4 B3 B4 h4
  go_wp2_with (at_make; go_must (refine wpList_mkn RefW.elU8 rfl _ _ rfl w4.heap.size _ _ _ _ 256 rfl rfl rfl rfl (by decide) (by decide) (Nat.le_refl _) ?_); intro w5 own5 hg5)
  rw [RefW.made_nums] at own5
  have b5 := below_growns hg5 (Nat.le_refl _)
  have n5 : Nums .u8 w5 (some ⟨w4.heap.size, 0, none⟩) 256 256 (List.replicate 256 0) := OwnN.nums own5
  have h5 := H4.out.below b5
  have B5 := HB4.out.trans (b5.mono HB4.out.size)
  have hr := raw_ok _ _ _ _ _ (j : Int) _ 256 (List.replicate 256 0) w5 h5 hfi (by show 0 ≤ (j : Int) ∧ (j : Int) < ((5 : Nat) : Int); omega) n5 (by decide)
  clear own5 hg5 b5 n5 h5
  go_wp2_with fail
  refine hr.mono ?_
  rintro e w6 ⟨rfl, h6, t6⟩
  have B6 := B5.trans (t6.below B5.size H4.out.own_lo)
  have hget : Dv.get (((Dv.new 5).put (j : Int) (List.replicate 256 0)).raw (j : Int) (List.replicate 256 0)) (j : Int) = .ok (List.replicate 256 0) := by
    refine get_some rfl (show 0 ≤ (j : Int) ∧ (j : Int) < ((5 : Nat) : Int) by omega) ?_
    unfold Dv.read keptOf
    show (match upd (upd (fun _ => none) (j : Int) (some (List.replicate 256 0))) (j : Int) none (j : Int) with
      | some l => some l
      | none => if upd (fun _ => false) (j : Int) false (j : Int) then none else some ((upd (fun _ => none) (j : Int) (some (List.replicate 256 0)) (j : Int)).getD _)) = _
    rw [upd_same, upd_same, upd_same]; rfl
  have hnp : (((Dv.new 5).put (j : Int) (List.replicate 256 0)).raw (j : Int) (List.replicate 256 0)).np = 0 := by
    show (if (upd (fun _ => none) (j : Int) (some (List.replicate 256 0)) (j : Int)).isSome = true then 0 + 1 - 1 else 0 + 1) = 0
    rw [upd_same]; rfl
  have hca : (((Dv.new 5).put (j : Int) (List.replicate 256 0)).raw (j : Int) (List.replicate 256 0)).calls = 1 := rfl
  have hfa : (((Dv.new 5).put (j : Int) (List.replicate 256 0)).raw (j : Int) (List.replicate 256 0)).fa (j : Int) = false := by
    show upd (fun _ => false) (j : Int) false (j : Int) = false
    rw [upd_same]
  generalize ((Dv.new 5).put (j : Int) (List.replicate 256 0)).raw (j : Int) (List.replicate 256 0) = D at *
  have H6 := hid h6
  have HB6 := hid B6
  have hrd := read_w bs _ _ _ _ D (j : Int) _ h6 ((ev_of HBs.out _ (by decide)).below B6) hfi
  rw [hget] at hrd
  clear hr t6 B5 B6 h6 hget
  go_wp2_with fail
  refine hrd.mono ?_
  rintro e w7 ⟨⟨g7, gc7, rfl, _⟩, b7⟩
  have H7 := hid (H6.out.below b7)
  have B7 := hid (HB6.out.trans (b7.mono HB6.out.size))
  clear hrd b7 H6 HB6
  go_wp2_with fail
  have his := fun w => is_nil w 0
  have hpe := fun (w' : World) (hb : Below w7.heap.size w7 w') => pending_w _ _ _ _ D w' (H7.out.below hb)
  have hcl := fun (w' : World) (hb : Below w7.heap.size w7 w') => calls_w _ _ _ _ D w' (H7.out.below hb)
  have hft := fun (w' : World) (hb : Below w7.heap.size w7 w') => faulted_w _ _ _ _ D (j : Int) w' (H7.out.below hb) hfi
  rw [hnp] at hpe
  rw [hca] at hcl
  rw [hfa] at hft
  clear hnp hca hfa
  go_region_held3 (fun w' => True) (first | exact trivial | go_keep)
    (first
      | (go_at_call 21; refine (his _).mono ?_; rintro e w8 ⟨rfl, b8⟩; have B8 := (Below.refl w7.heap.size w7).drew.trans b8)
      | (go_at_call 22; refine (hpe _ B8).mono ?_; rintro e w9 ⟨rfl, rfl⟩)
      | (go_at_call 23; refine (hcl _ B8).mono ?_; rintro e w9 ⟨rfl, rfl⟩)
      | (go_at_call 24; refine (hft _ B8).mono ?_; rintro e w9 ⟨rfl, rfl⟩))
  have BF := HB1.out.trans ((B7.out.trans (B8.mono B7.out.size)).mono HB1.out.size)
  clear his hpe hcl hft
  go_wp2_with fail
  go_ret
  exact ⟨rfl, BF⟩
set_option maxHeartbeats 6400000 in
theorem short (i : Int) (a1 : Int) (bs : List Addr) (w : World) (hB : Bs w bs) (hi : 0 ≤ i ∧ i < 5) (h1 : -9223372036854775808 ≤ a1 ∧ a1 ≤ 9223372036854775807) (n : Nat) (hn : a1 % 520 = (n : Int)) (h520 : n < 520) (h256 : n ≠ 256) :
    Calls Tryd.prog 3 #[.int .i64 i, .int .i64 a1] w fun e w' => e = .returned (.bool true) ∧ Below w.heap.size w w' := by
  have hfi : Fits i := by unfold Fits; omega
  have HI := hid hi
  have HN := hid h256
  have d0 : decide ((0 : Int) ≤ i) = true := decide_eq_true hi.1
  have hd : decide (i < 5) = true := decide_eq_true hi.2
  have hx : ((n : Int) != 256) = true := by rw [bne_iff_ne]; omega
  have hx2 : ((n : Int) == 256) = false := by rw [beq_eq_false_iff_ne]; omega
  clear hi h256
  go_enter Tryd.func3, Tryd.ntmps3
  go_wp2_with fail
  refine (first_w bs w (ev_of hB _ (by decide))).mono ?_
  rintro e w1 ⟨rfl, b1⟩
  have HBs := hid (hB.below b1)
  have HB1 := hid b1
  clear hB b1
  go_wp2_with fail
  refine (NumW.number_w a1 520 _ (by decide) (by decide) h1.1 h1.2).mono ?_
  rintro e w' ⟨rfl, rfl⟩
  rw [hn]
  clear hn h1
  go_wp2_with fail
  refine (new_w 5 w1 (by decide) (by decide)).mono ?_
  rintro e w2 ⟨rfl, h2, b2, z2⟩
  have L2 := hid h2.own_lo
  have HB2 := hid b2
  have HH2 := hid h2
  clear h2 b2 z2
  go_wp2_with (at_make; go_must (refine wpList_mkn RefW.elU8 rfl _ _ rfl w2.heap.size _ _ _ _ n rfl rfl rfl rfl (by omega) (by unfold maxLen; omega) (Nat.le_refl _) ?_); intro w3 own3 hg3)
  rw [RefW.made_nums] at own3
  have b3 := below_growns hg3 (Nat.le_refl _)
  have n3 : Nums .u8 w3 (some ⟨w2.heap.size, 0, none⟩) n n (List.replicate n 0) := OwnN.nums own3
  have h3 := HH2.out.below b3
  have B3 := HB2.out.trans (b3.mono HB2.out.size)
  have hw := write_no bs _ _ _ _ (Dv.new 5) i (some ⟨w2.heap.size, 0, none⟩) n n w3 h3 ((ev_of HBs.out _ (by decide)).below B3) (by decide) hfi 1 _ (by decide) rfl (.inr (.inr ⟨rfl, HI.out, HN.out, rfl⟩))
  rw [show (Dv.new 5).tick = Dv.new 5 from rfl] at hw
  clear own3 hg3 b3 n3 h3
  go_wp2_with fail
  refine hw.mono ?_
  rintro e w4 ⟨⟨x, hx', rfl⟩, h4, t4⟩
  have HX := hid hx'
  have B4 := B3.trans (t4.below B3.size (fun y hy => by rw [List.mem_singleton.1 hy]; omega))
  clear hx'
  have H4 := hid h4
  have HB4 := hid B4
  clear hw t4 B3 B4 h4
  go_wp2_with (at_make; go_must (refine wpList_mkn RefW.elU8 rfl _ _ rfl w4.heap.size _ _ _ _ n rfl rfl rfl rfl (by omega) (by unfold maxLen; omega) (Nat.le_refl _) ?_); intro w5 own5 hg5)
  rw [RefW.made_nums] at own5
  have b5 := below_growns hg5 (Nat.le_refl _)
  have n5 : Nums .u8 w5 (some ⟨w4.heap.size, 0, none⟩) n n (List.replicate n 0) := OwnN.nums own5
  have h5 := H4.out.below b5
  have B5 := HB4.out.trans (b5.mono HB4.out.size)
  have hr := raw_no _ _ _ _ _ i (some ⟨w4.heap.size, 0, none⟩) n n w5 h5 hfi (by omega) (.inr HN.out)
  have H5 := hid h5
  clear own5 hg5 b5 n5 h5
  go_wp2_with fail
  refine hr.mono ?_
  rintro e w6 ⟨rfl, rfl⟩
  have h6 := H5.out
  have B6 := B5
  have hget : Dv.get (Dv.new 5) i = .ok (List.replicate 256 0) := by
    exact get_some rfl HI.out rfl
  have hnp : (Dv.new 5).np = 0 := rfl
  have hca : (Dv.new 5).calls = 0 := rfl
  have hfa : (Dv.new 5).fa i = false := rfl
  generalize Dv.new 5 = D at *
  have H6 := hid h6
  have HB6 := hid B6
  have hrd := read_w bs _ _ _ _ D i _ h6 ((ev_of HBs.out _ (by decide)).below B6) hfi
  rw [hget] at hrd
  clear hr B5 B6 h6 hget
  go_wp2_with fail
  refine hrd.mono ?_
  rintro e w7 ⟨⟨g7, gc7, rfl, _⟩, b7⟩
  have H7 := hid (H6.out.below b7)
  have B7 := hid (HB6.out.trans (b7.mono HB6.out.size))
  clear hrd b7 H6 HB6
  go_wp2_with fail
  have his := fun (w' : World) (hb : Below w7.heap.size w7 w') => is_w bs w' (HBs.out.below (B7.out.trans (hb.mono B7.out.size))) 1 x HX.out 102
  have hpe := fun (w' : World) (hb : Below w7.heap.size w7 w') => pending_w _ _ _ _ D w' (H7.out.below hb)
  have hcl := fun (w' : World) (hb : Below w7.heap.size w7 w') => calls_w _ _ _ _ D w' (H7.out.below hb)
  have hft := fun (w' : World) (hb : Below w7.heap.size w7 w') => faulted_w _ _ _ _ D i w' (H7.out.below hb) hfi
  rw [hnp] at hpe
  rw [hca] at hcl
  rw [hfa] at hft
  clear hnp hca hfa
  go_region_held3 (fun w' => True) (first | exact trivial | go_keep)
    (first
      | (go_at_call 21; refine (his _ (Below.refl _ _).drew).mono ?_; rintro e w8 ⟨rfl, b8⟩; have B8 := (Below.refl w7.heap.size w7).drew.trans b8)
      | (go_at_call 22; refine (hpe _ B8).mono ?_; rintro e w9 ⟨rfl, rfl⟩)
      | (go_at_call 23; refine (hcl _ B8).mono ?_; rintro e w9 ⟨rfl, rfl⟩)
      | (go_at_call 24; refine (hft _ B8).mono ?_; rintro e w9 ⟨rfl, rfl⟩))
  have BF := HB1.out.trans ((B7.out.trans (B8.mono B7.out.size)).mono HB1.out.size)
  clear his hpe hcl hft
  go_wp2_with fail
  go_ret
  exact ⟨rfl, BF⟩
set_option maxHeartbeats 6400000 in
theorem belowN (i : Int) (a1 : Int) (bs : List Addr) (w : World) (hB : Bs w bs) (hf : Fits i) (hi : i < 0) (h1 : -9223372036854775808 ≤ a1 ∧ a1 ≤ 9223372036854775807) (n : Nat) (hn : a1 % 520 = (n : Int)) (h520 : n < 520) (hx : ((n : Int) != 256) = true) (hx2 : ((n : Int) == 256) = false) :
    Calls Tryd.prog 3 #[.int .i64 i, .int .i64 a1] w fun e w' => e = .returned (.bool true) ∧ Below w.heap.size w w' := by
  have hfi : Fits i := hf
  have HI := hid (show ¬ (0 ≤ i ∧ i < 5) by omega)
  have d0 : decide ((0 : Int) ≤ i) = false := decide_eq_false (by omega)
  clear hi hf
  go_enter Tryd.func3, Tryd.ntmps3
  go_wp2_with fail
  refine (first_w bs w (ev_of hB _ (by decide))).mono ?_
  rintro e w1 ⟨rfl, b1⟩
  have HBs := hid (hB.below b1)
  have HB1 := hid b1
  clear hB b1
  go_wp2_with fail
  refine (NumW.number_w a1 520 _ (by decide) (by decide) h1.1 h1.2).mono ?_
  rintro e w' ⟨rfl, rfl⟩
  rw [hn]
  clear hn h1
  go_wp2_with fail
  refine (new_w 5 w1 (by decide) (by decide)).mono ?_
  rintro e w2 ⟨rfl, h2, b2, z2⟩
  have L2 := hid h2.own_lo
  have HB2 := hid b2
  have HH2 := hid h2
  clear h2 b2 z2
  go_wp2_with (at_make; go_must (refine wpList_mkn RefW.elU8 rfl _ _ rfl w2.heap.size _ _ _ _ n rfl rfl rfl rfl (by omega) (by unfold maxLen; omega) (Nat.le_refl _) ?_); intro w3 own3 hg3)
  rw [RefW.made_nums] at own3
  have b3 := below_growns hg3 (Nat.le_refl _)
  have n3 : Nums .u8 w3 (some ⟨w2.heap.size, 0, none⟩) n n (List.replicate n 0) := OwnN.nums own3
  have h3 := HH2.out.below b3
  have B3 := HB2.out.trans (b3.mono HB2.out.size)
  have hw := write_no bs _ _ _ _ (Dv.new 5) i (some ⟨w2.heap.size, 0, none⟩) n n w3 h3 ((ev_of HBs.out _ (by decide)).below B3) (by decide) hfi 4 _ (by decide) rfl (.inr (.inl ⟨rfl, HI.out, rfl⟩))
  rw [show (Dv.new 5).tick = Dv.new 5 from rfl] at hw
  clear own3 hg3 b3 n3 h3
  go_wp2_with fail
  refine hw.mono ?_
  rintro e w4 ⟨⟨x, hx', rfl⟩, h4, t4⟩
  have HX := hid hx'
  have B4 := B3.trans (t4.below B3.size (fun y hy => by rw [List.mem_singleton.1 hy]; omega))
  clear hx'
  have H4 := hid h4
  have HB4 := hid B4
  clear hw t4 B3 B4 h4
  go_wp2_with (at_make; go_must (refine wpList_mkn RefW.elU8 rfl _ _ rfl w4.heap.size _ _ _ _ n rfl rfl rfl rfl (by omega) (by unfold maxLen; omega) (Nat.le_refl _) ?_); intro w5 own5 hg5)
  rw [RefW.made_nums] at own5
  have b5 := below_growns hg5 (Nat.le_refl _)
  have n5 : Nums .u8 w5 (some ⟨w4.heap.size, 0, none⟩) n n (List.replicate n 0) := OwnN.nums own5
  have h5 := H4.out.below b5
  have B5 := HB4.out.trans (b5.mono HB4.out.size)
  have hr := raw_no _ _ _ _ _ i (some ⟨w4.heap.size, 0, none⟩) n n w5 h5 hfi (by omega) (.inl HI.out)
  have H5 := hid h5
  clear own5 hg5 b5 n5 h5
  go_wp2_with fail
  refine hr.mono ?_
  rintro e w6 ⟨rfl, rfl⟩
  have h6 := H5.out
  have B6 := B5
  have hget : Dv.get (Dv.new 5) i = .error 4 := by
    exact get_out rfl HI.out
  have hnp : (Dv.new 5).np = 0 := rfl
  have hca : (Dv.new 5).calls = 0 := rfl
  have hfa : (Dv.new 5).fa i = false := rfl
  generalize Dv.new 5 = D at *
  have H6 := hid h6
  have HB6 := hid B6
  have hrd := read_w bs _ _ _ _ D i _ h6 ((ev_of HBs.out _ (by decide)).below B6) hfi
  rw [hget] at hrd
  clear hr B5 B6 h6 hget
  go_wp2_with fail
  refine hrd.mono ?_
  rintro e w7 ⟨⟨y, _, rfl⟩, b7⟩
  have H7 := hid (H6.out.below b7)
  have B7 := hid (HB6.out.trans (b7.mono HB6.out.size))
  clear hrd b7 H6 HB6
  go_wp2_with fail
  have his := fun (w' : World) (hb : Below w7.heap.size w7 w') => is_w bs w' (HBs.out.below (B7.out.trans (hb.mono B7.out.size))) 4 x HX.out 105
  have hpe := fun (w' : World) (hb : Below w7.heap.size w7 w') => pending_w _ _ _ _ D w' (H7.out.below hb)
  have hcl := fun (w' : World) (hb : Below w7.heap.size w7 w') => calls_w _ _ _ _ D w' (H7.out.below hb)
  have hft := fun (w' : World) (hb : Below w7.heap.size w7 w') => faulted_w _ _ _ _ D i w' (H7.out.below hb) hfi
  rw [hnp] at hpe
  rw [hca] at hcl
  rw [hfa] at hft
  clear hnp hca hfa
  first
    | go_region_held (fun w' => True) (first | exact trivial | go_keep)
        (first
          | (go_at_call 21; refine (his _ (Below.refl _ _).drew).mono ?_; rintro e w8 ⟨rfl, b8⟩; have B8 := (Below.refl w7.heap.size w7).drew.trans b8)
          | (go_at_call 22; refine (hpe _ B8).mono ?_; rintro e w9 ⟨rfl, rfl⟩)
          | (go_at_call 23; refine (hcl _ B8).mono ?_; rintro e w9 ⟨rfl, rfl⟩)
          | (go_at_call 24; refine (hft _ B8).mono ?_; rintro e w9 ⟨rfl, rfl⟩))
    | fail
  have BF := HB1.out.trans ((B7.out.trans (B8.mono B7.out.size)).mono HB1.out.size)
  clear his hpe hcl hft
  go_wp2_with fail
  go_ret
  exact ⟨rfl, BF⟩
set_option maxHeartbeats 6400000 in
theorem belowE (i : Int) (a1 : Int) (bs : List Addr) (w : World) (hB : Bs w bs) (hf : Fits i) (hi : i < 0) (h1 : -9223372036854775808 ≤ a1 ∧ a1 ≤ 9223372036854775807) (n : Nat) (hn : a1 % 520 = (n : Int)) (h520 : n < 520) (hx : ((n : Int) != 256) = false) (hx2 : ((n : Int) == 256) = true) :
    Calls Tryd.prog 3 #[.int .i64 i, .int .i64 a1] w fun e w' => e = .returned (.bool true) ∧ Below w.heap.size w w' := by
  have hfi : Fits i := hf
  have HI := hid (show ¬ (0 ≤ i ∧ i < 5) by omega)
  have d0 : decide ((0 : Int) ≤ i) = false := decide_eq_false (by omega)
  clear hi hf
  go_enter Tryd.func3, Tryd.ntmps3
  go_wp2_with fail
  refine (first_w bs w (ev_of hB _ (by decide))).mono ?_
  rintro e w1 ⟨rfl, b1⟩
  have HBs := hid (hB.below b1)
  have HB1 := hid b1
  clear hB b1
  go_wp2_with fail
  refine (NumW.number_w a1 520 _ (by decide) (by decide) h1.1 h1.2).mono ?_
  rintro e w' ⟨rfl, rfl⟩
  rw [hn]
  clear hn h1
  go_wp2_with fail
  refine (new_w 5 w1 (by decide) (by decide)).mono ?_
  rintro e w2 ⟨rfl, h2, b2, z2⟩
  have L2 := hid h2.own_lo
  have HB2 := hid b2
  have HH2 := hid h2
  clear h2 b2 z2
  go_wp2_with (at_make; go_must (refine wpList_mkn RefW.elU8 rfl _ _ rfl w2.heap.size _ _ _ _ n rfl rfl rfl rfl (by omega) (by unfold maxLen; omega) (Nat.le_refl _) ?_); intro w3 own3 hg3)
  rw [RefW.made_nums] at own3
  have b3 := below_growns hg3 (Nat.le_refl _)
  have n3 : Nums .u8 w3 (some ⟨w2.heap.size, 0, none⟩) n n (List.replicate n 0) := OwnN.nums own3
  have h3 := HH2.out.below b3
  have B3 := HB2.out.trans (b3.mono HB2.out.size)
  have hw := write_no bs _ _ _ _ (Dv.new 5) i (some ⟨w2.heap.size, 0, none⟩) n n w3 h3 ((ev_of HBs.out _ (by decide)).below B3) (by decide) hfi 4 _ (by decide) rfl (.inr (.inl ⟨rfl, HI.out, rfl⟩))
  rw [show (Dv.new 5).tick = Dv.new 5 from rfl] at hw
  clear own3 hg3 b3 n3 h3
  go_wp2_with fail
  refine hw.mono ?_
  rintro e w4 ⟨⟨x, hx', rfl⟩, h4, t4⟩
  have HX := hid hx'
  have B4 := B3.trans (t4.below B3.size (fun y hy => by rw [List.mem_singleton.1 hy]; omega))
  clear hx'
  have H4 := hid h4
  have HB4 := hid B4
  clear hw t4 B3 B4 h4
  go_wp2_with (at_make; go_must (refine wpList_mkn RefW.elU8 rfl _ _ rfl w4.heap.size _ _ _ _ n rfl rfl rfl rfl (by omega) (by unfold maxLen; omega) (Nat.le_refl _) ?_); intro w5 own5 hg5)
  rw [RefW.made_nums] at own5
  have b5 := below_growns hg5 (Nat.le_refl _)
  have n5 : Nums .u8 w5 (some ⟨w4.heap.size, 0, none⟩) n n (List.replicate n 0) := OwnN.nums own5
  have h5 := H4.out.below b5
  have B5 := HB4.out.trans (b5.mono HB4.out.size)
  have hr := raw_no _ _ _ _ _ i (some ⟨w4.heap.size, 0, none⟩) n n w5 h5 hfi (by omega) (.inl HI.out)
  have H5 := hid h5
  clear own5 hg5 b5 n5 h5
  go_wp2_with fail
  refine hr.mono ?_
  rintro e w6 ⟨rfl, rfl⟩
  have h6 := H5.out
  have B6 := B5
  have hget : Dv.get (Dv.new 5) i = .error 4 := by
    exact get_out rfl HI.out
  have hnp : (Dv.new 5).np = 0 := rfl
  have hca : (Dv.new 5).calls = 0 := rfl
  have hfa : (Dv.new 5).fa i = false := rfl
  generalize Dv.new 5 = D at *
  have H6 := hid h6
  have HB6 := hid B6
  have hrd := read_w bs _ _ _ _ D i _ h6 ((ev_of HBs.out _ (by decide)).below B6) hfi
  rw [hget] at hrd
  clear hr B5 B6 h6 hget
  go_wp2_with fail
  refine hrd.mono ?_
  rintro e w7 ⟨⟨y, _, rfl⟩, b7⟩
  have H7 := hid (H6.out.below b7)
  have B7 := hid (HB6.out.trans (b7.mono HB6.out.size))
  clear hrd b7 H6 HB6
  go_wp2_with fail
  have his := fun (w' : World) (hb : Below w7.heap.size w7 w') => is_w bs w' (HBs.out.below (B7.out.trans (hb.mono B7.out.size))) 4 x HX.out 105
  have hpe := fun (w' : World) (hb : Below w7.heap.size w7 w') => pending_w _ _ _ _ D w' (H7.out.below hb)
  have hcl := fun (w' : World) (hb : Below w7.heap.size w7 w') => calls_w _ _ _ _ D w' (H7.out.below hb)
  have hft := fun (w' : World) (hb : Below w7.heap.size w7 w') => faulted_w _ _ _ _ D i w' (H7.out.below hb) hfi
  rw [hnp] at hpe
  rw [hca] at hcl
  rw [hfa] at hft
  clear hnp hca hfa
  first
    | go_region_held (fun w' => True) (first | exact trivial | go_keep)
        (first
          | (go_at_call 21; refine (his _ (Below.refl _ _).drew).mono ?_; rintro e w8 ⟨rfl, b8⟩; have B8 := (Below.refl w7.heap.size w7).drew.trans b8)
          | (go_at_call 22; refine (hpe _ B8).mono ?_; rintro e w9 ⟨rfl, rfl⟩)
          | (go_at_call 23; refine (hcl _ B8).mono ?_; rintro e w9 ⟨rfl, rfl⟩)
          | (go_at_call 24; refine (hft _ B8).mono ?_; rintro e w9 ⟨rfl, rfl⟩))
    | fail
  have BF := HB1.out.trans ((B7.out.trans (B8.mono B7.out.size)).mono HB1.out.size)
  clear his hpe hcl hft
  go_wp2_with fail
  go_ret
  exact ⟨rfl, BF⟩
set_option maxHeartbeats 6400000 in
theorem aboveN (i : Int) (a1 : Int) (bs : List Addr) (w : World) (hB : Bs w bs) (hf : Fits i) (hi : 5 ≤ i) (h1 : -9223372036854775808 ≤ a1 ∧ a1 ≤ 9223372036854775807) (n : Nat) (hn : a1 % 520 = (n : Int)) (h520 : n < 520) (hx : ((n : Int) != 256) = true) (hx2 : ((n : Int) == 256) = false) :
    Calls Tryd.prog 3 #[.int .i64 i, .int .i64 a1] w fun e w' => e = .returned (.bool true) ∧ Below w.heap.size w w' := by
  have hfi : Fits i := hf
  have HI := hid (show ¬ (0 ≤ i ∧ i < 5) by omega)
  have d0 : decide ((0 : Int) ≤ i) = true := decide_eq_true (by omega)
  have hd : decide (i < 5) = false := decide_eq_false (by omega)
  clear hi hf
  go_enter Tryd.func3, Tryd.ntmps3
  go_wp2_with fail
  refine (first_w bs w (ev_of hB _ (by decide))).mono ?_
  rintro e w1 ⟨rfl, b1⟩
  have HBs := hid (hB.below b1)
  have HB1 := hid b1
  clear hB b1
  go_wp2_with fail
  refine (NumW.number_w a1 520 _ (by decide) (by decide) h1.1 h1.2).mono ?_
  rintro e w' ⟨rfl, rfl⟩
  rw [hn]
  clear hn h1
  go_wp2_with fail
  refine (new_w 5 w1 (by decide) (by decide)).mono ?_
  rintro e w2 ⟨rfl, h2, b2, z2⟩
  have L2 := hid h2.own_lo
  have HB2 := hid b2
  have HH2 := hid h2
  clear h2 b2 z2
  go_wp2_with (at_make; go_must (refine wpList_mkn RefW.elU8 rfl _ _ rfl w2.heap.size _ _ _ _ n rfl rfl rfl rfl (by omega) (by unfold maxLen; omega) (Nat.le_refl _) ?_); intro w3 own3 hg3)
  rw [RefW.made_nums] at own3
  have b3 := below_growns hg3 (Nat.le_refl _)
  have n3 : Nums .u8 w3 (some ⟨w2.heap.size, 0, none⟩) n n (List.replicate n 0) := OwnN.nums own3
  have h3 := HH2.out.below b3
  have B3 := HB2.out.trans (b3.mono HB2.out.size)
  have hw := write_no bs _ _ _ _ (Dv.new 5) i (some ⟨w2.heap.size, 0, none⟩) n n w3 h3 ((ev_of HBs.out _ (by decide)).below B3) (by decide) hfi 4 _ (by decide) rfl (.inr (.inl ⟨rfl, HI.out, rfl⟩))
  rw [show (Dv.new 5).tick = Dv.new 5 from rfl] at hw
  clear own3 hg3 b3 n3 h3
  go_wp2_with fail
  refine hw.mono ?_
  rintro e w4 ⟨⟨x, hx', rfl⟩, h4, t4⟩
  have HX := hid hx'
  have B4 := B3.trans (t4.below B3.size (fun y hy => by rw [List.mem_singleton.1 hy]; omega))
  clear hx'
  have H4 := hid h4
  have HB4 := hid B4
  clear hw t4 B3 B4 h4
  go_wp2_with (at_make; go_must (refine wpList_mkn RefW.elU8 rfl _ _ rfl w4.heap.size _ _ _ _ n rfl rfl rfl rfl (by omega) (by unfold maxLen; omega) (Nat.le_refl _) ?_); intro w5 own5 hg5)
  rw [RefW.made_nums] at own5
  have b5 := below_growns hg5 (Nat.le_refl _)
  have n5 : Nums .u8 w5 (some ⟨w4.heap.size, 0, none⟩) n n (List.replicate n 0) := OwnN.nums own5
  have h5 := H4.out.below b5
  have B5 := HB4.out.trans (b5.mono HB4.out.size)
  have hr := raw_no _ _ _ _ _ i (some ⟨w4.heap.size, 0, none⟩) n n w5 h5 hfi (by omega) (.inl HI.out)
  have H5 := hid h5
  clear own5 hg5 b5 n5 h5
  go_wp2_with fail
  refine hr.mono ?_
  rintro e w6 ⟨rfl, rfl⟩
  have h6 := H5.out
  have B6 := B5
  have hget : Dv.get (Dv.new 5) i = .error 4 := by
    exact get_out rfl HI.out
  have hnp : (Dv.new 5).np = 0 := rfl
  have hca : (Dv.new 5).calls = 0 := rfl
  have hfa : (Dv.new 5).fa i = false := rfl
  generalize Dv.new 5 = D at *
  have H6 := hid h6
  have HB6 := hid B6
  have hrd := read_w bs _ _ _ _ D i _ h6 ((ev_of HBs.out _ (by decide)).below B6) hfi
  rw [hget] at hrd
  clear hr B5 B6 h6 hget
  go_wp2_with fail
  refine hrd.mono ?_
  rintro e w7 ⟨⟨y, _, rfl⟩, b7⟩
  have H7 := hid (H6.out.below b7)
  have B7 := hid (HB6.out.trans (b7.mono HB6.out.size))
  clear hrd b7 H6 HB6
  go_wp2_with fail
  have his := fun (w' : World) (hb : Below w7.heap.size w7 w') => is_w bs w' (HBs.out.below (B7.out.trans (hb.mono B7.out.size))) 4 x HX.out 105
  have hpe := fun (w' : World) (hb : Below w7.heap.size w7 w') => pending_w _ _ _ _ D w' (H7.out.below hb)
  have hcl := fun (w' : World) (hb : Below w7.heap.size w7 w') => calls_w _ _ _ _ D w' (H7.out.below hb)
  have hft := fun (w' : World) (hb : Below w7.heap.size w7 w') => faulted_w _ _ _ _ D i w' (H7.out.below hb) hfi
  rw [hnp] at hpe
  rw [hca] at hcl
  rw [hfa] at hft
  clear hnp hca hfa
  first
    | go_region_held (fun w' => True) (first | exact trivial | go_keep)
        (first
          | (go_at_call 21; refine (his _ (Below.refl _ _).drew).mono ?_; rintro e w8 ⟨rfl, b8⟩; have B8 := (Below.refl w7.heap.size w7).drew.trans b8)
          | (go_at_call 22; refine (hpe _ B8).mono ?_; rintro e w9 ⟨rfl, rfl⟩)
          | (go_at_call 23; refine (hcl _ B8).mono ?_; rintro e w9 ⟨rfl, rfl⟩)
          | (go_at_call 24; refine (hft _ B8).mono ?_; rintro e w9 ⟨rfl, rfl⟩))
    | fail
  have BF := HB1.out.trans ((B7.out.trans (B8.mono B7.out.size)).mono HB1.out.size)
  clear his hpe hcl hft
  go_wp2_with fail
  go_ret
  exact ⟨rfl, BF⟩
set_option maxHeartbeats 6400000 in
theorem aboveE (i : Int) (a1 : Int) (bs : List Addr) (w : World) (hB : Bs w bs) (hf : Fits i) (hi : 5 ≤ i) (h1 : -9223372036854775808 ≤ a1 ∧ a1 ≤ 9223372036854775807) (n : Nat) (hn : a1 % 520 = (n : Int)) (h520 : n < 520) (hx : ((n : Int) != 256) = false) (hx2 : ((n : Int) == 256) = true) :
    Calls Tryd.prog 3 #[.int .i64 i, .int .i64 a1] w fun e w' => e = .returned (.bool true) ∧ Below w.heap.size w w' := by
  have hfi : Fits i := hf
  have HI := hid (show ¬ (0 ≤ i ∧ i < 5) by omega)
  have d0 : decide ((0 : Int) ≤ i) = true := decide_eq_true (by omega)
  have hd : decide (i < 5) = false := decide_eq_false (by omega)
  clear hi hf
  go_enter Tryd.func3, Tryd.ntmps3
  go_wp2_with fail
  refine (first_w bs w (ev_of hB _ (by decide))).mono ?_
  rintro e w1 ⟨rfl, b1⟩
  have HBs := hid (hB.below b1)
  have HB1 := hid b1
  clear hB b1
  go_wp2_with fail
  refine (NumW.number_w a1 520 _ (by decide) (by decide) h1.1 h1.2).mono ?_
  rintro e w' ⟨rfl, rfl⟩
  rw [hn]
  clear hn h1
  go_wp2_with fail
  refine (new_w 5 w1 (by decide) (by decide)).mono ?_
  rintro e w2 ⟨rfl, h2, b2, z2⟩
  have L2 := hid h2.own_lo
  have HB2 := hid b2
  have HH2 := hid h2
  clear h2 b2 z2
  go_wp2_with (at_make; go_must (refine wpList_mkn RefW.elU8 rfl _ _ rfl w2.heap.size _ _ _ _ n rfl rfl rfl rfl (by omega) (by unfold maxLen; omega) (Nat.le_refl _) ?_); intro w3 own3 hg3)
  rw [RefW.made_nums] at own3
  have b3 := below_growns hg3 (Nat.le_refl _)
  have n3 : Nums .u8 w3 (some ⟨w2.heap.size, 0, none⟩) n n (List.replicate n 0) := OwnN.nums own3
  have h3 := HH2.out.below b3
  have B3 := HB2.out.trans (b3.mono HB2.out.size)
  have hw := write_no bs _ _ _ _ (Dv.new 5) i (some ⟨w2.heap.size, 0, none⟩) n n w3 h3 ((ev_of HBs.out _ (by decide)).below B3) (by decide) hfi 4 _ (by decide) rfl (.inr (.inl ⟨rfl, HI.out, rfl⟩))
  rw [show (Dv.new 5).tick = Dv.new 5 from rfl] at hw
  clear own3 hg3 b3 n3 h3
  go_wp2_with fail
  refine hw.mono ?_
  rintro e w4 ⟨⟨x, hx', rfl⟩, h4, t4⟩
  have HX := hid hx'
  have B4 := B3.trans (t4.below B3.size (fun y hy => by rw [List.mem_singleton.1 hy]; omega))
  clear hx'
  have H4 := hid h4
  have HB4 := hid B4
  clear hw t4 B3 B4 h4
  go_wp2_with (at_make; go_must (refine wpList_mkn RefW.elU8 rfl _ _ rfl w4.heap.size _ _ _ _ n rfl rfl rfl rfl (by omega) (by unfold maxLen; omega) (Nat.le_refl _) ?_); intro w5 own5 hg5)
  rw [RefW.made_nums] at own5
  have b5 := below_growns hg5 (Nat.le_refl _)
  have n5 : Nums .u8 w5 (some ⟨w4.heap.size, 0, none⟩) n n (List.replicate n 0) := OwnN.nums own5
  have h5 := H4.out.below b5
  have B5 := HB4.out.trans (b5.mono HB4.out.size)
  have hr := raw_no _ _ _ _ _ i (some ⟨w4.heap.size, 0, none⟩) n n w5 h5 hfi (by omega) (.inl HI.out)
  have H5 := hid h5
  clear own5 hg5 b5 n5 h5
  go_wp2_with fail
  refine hr.mono ?_
  rintro e w6 ⟨rfl, rfl⟩
  have h6 := H5.out
  have B6 := B5
  have hget : Dv.get (Dv.new 5) i = .error 4 := by
    exact get_out rfl HI.out
  have hnp : (Dv.new 5).np = 0 := rfl
  have hca : (Dv.new 5).calls = 0 := rfl
  have hfa : (Dv.new 5).fa i = false := rfl
  generalize Dv.new 5 = D at *
  have H6 := hid h6
  have HB6 := hid B6
  have hrd := read_w bs _ _ _ _ D i _ h6 ((ev_of HBs.out _ (by decide)).below B6) hfi
  rw [hget] at hrd
  clear hr B5 B6 h6 hget
  go_wp2_with fail
  refine hrd.mono ?_
  rintro e w7 ⟨⟨y, _, rfl⟩, b7⟩
  have H7 := hid (H6.out.below b7)
  have B7 := hid (HB6.out.trans (b7.mono HB6.out.size))
  clear hrd b7 H6 HB6
  go_wp2_with fail
  have his := fun (w' : World) (hb : Below w7.heap.size w7 w') => is_w bs w' (HBs.out.below (B7.out.trans (hb.mono B7.out.size))) 4 x HX.out 105
  have hpe := fun (w' : World) (hb : Below w7.heap.size w7 w') => pending_w _ _ _ _ D w' (H7.out.below hb)
  have hcl := fun (w' : World) (hb : Below w7.heap.size w7 w') => calls_w _ _ _ _ D w' (H7.out.below hb)
  have hft := fun (w' : World) (hb : Below w7.heap.size w7 w') => faulted_w _ _ _ _ D i w' (H7.out.below hb) hfi
  rw [hnp] at hpe
  rw [hca] at hcl
  rw [hfa] at hft
  clear hnp hca hfa
  first
    | go_region_held (fun w' => True) (first | exact trivial | go_keep)
        (first
          | (go_at_call 21; refine (his _ (Below.refl _ _).drew).mono ?_; rintro e w8 ⟨rfl, b8⟩; have B8 := (Below.refl w7.heap.size w7).drew.trans b8)
          | (go_at_call 22; refine (hpe _ B8).mono ?_; rintro e w9 ⟨rfl, rfl⟩)
          | (go_at_call 23; refine (hcl _ B8).mono ?_; rintro e w9 ⟨rfl, rfl⟩)
          | (go_at_call 24; refine (hft _ B8).mono ?_; rintro e w9 ⟨rfl, rfl⟩))
    | fail
  have BF := HB1.out.trans ((B7.out.trans (B8.mono B7.out.size)).mono HB1.out.size)
  clear his hpe hcl hft
  go_wp2_with fail
  go_ret
  exact ⟨rfl, BF⟩
theorem walk (a0 a1 : Int) (w : World) (hE : Err.All w gl) (w0 : (Lit.int .i64 a0).wf = true) (w1 : (Lit.int .i64 a1).wf = true) :
    Calls Tryd.prog 3 #[.int .i64 a0, .int .i64 a1] w fun e w' => e = .returned (.bool true) ∧ Below w.heap.size w w' := by
  obtain ⟨bs, hB⟩ := bs_of hE
  have h1 := int_of w1
  obtain ⟨n, hn⟩ := Int.eq_ofNat_of_zero_le (Int.emod_nonneg a1 (show (520 : Int) ≠ 0 by decide))
  have h520 : n < 520 := by have := Int.emod_lt_of_pos a1 (show (0 : Int) < 520 by decide); omega
  by_cases hi : 0 ≤ a0 ∧ a0 < 5
  · by_cases h : n = 256
    · exact inside a0 a1 bs w hB hi h1 (by omega)
    · exact short a0 a1 bs w hB hi h1 n hn h520 h
  · by_cases h : n = 256
    · have hx : ((n : Int) != 256) = false := by subst h; rfl
      have hx2 : ((n : Int) == 256) = true := by subst h; rfl
      by_cases h0 : a0 < 0
      · exact belowE a0 a1 bs w hB (int_of w0) h0 h1 n hn h520 hx hx2
      · exact aboveE a0 a1 bs w hB (int_of w0) (by omega) h1 n hn h520 hx hx2
    · have hx : ((n : Int) != 256) = true := by rw [bne_iff_ne]; omega
      have hx2 : ((n : Int) == 256) = false := by rw [beq_eq_false_iff_ne]; omega
      by_cases h0 : a0 < 0
      · exact belowN a0 a1 bs w hB (int_of w0) h0 h1 n hn h520 hx hx2
      · exact aboveN a0 a1 bs w hB (int_of w0) (by omega) h1 n hn h520 hx hx2
end Go.Proofs.YtlljpljfmaaejaaDoor.devShapes
