/- The walk of RootFaults. -/
import Derived.Test.YtjecnjgngahmfaaDoorRootFirst
import Derived.Test.YtjecnjgngahmfaaDoorNumWalk
import Derived.Test.YtjecnjgngahmfaaDoorRootFault
import Derived.Deep.CutRange
import Derived.Deep.CutBlock
namespace Go.Proofs.YtjecnjgngahmfaaDoor.rootFaults
open Go Go.RowKit Go.Maps Go.Proofs.YtjecnjgngahmfaaDoor.Mem Go.Proofs.YtjecnjgngahmfaaDoor.MapsW Go.Proofs.YtjecnjgngahmfaaDoor.RootP Go.Proofs.YtjecnjgngahmfaaDoor.SeeW Go.Proofs.YtjecnjgngahmfaaDoor.RefsW Go.Proofs.YtjecnjgngahmfaaDoor.DevG Go.Proofs.YtjecnjgngahmfaaDoor.Ints Go.Proofs.YtjecnjgngahmfaaDoor.RootW
set_option linter.unusedVariables false
set_option maxRecDepth 100000

theorem is_built (w : World) (x y : Int) (t : TypeId) : Is (w.alloc (.cells #[.int .i64 x, .int .i64 y] t)) (some ⟨w.heap.size, 0, none⟩) 2 2 [x, y] := by
  obtain ⟨c0, c1⟩ := new2 w (.int .i64 x) (.int .i64 y) t
  refine ⟨rfl, Nat.le_refl _, by unfold maxLen; omega, fun h => by simp at h, fun j u hj => ?_⟩
  match j, hj with
  | 0, hj => cases hj; exact ⟨_, 0, rfl, c0⟩
  | 1, hj => cases hj; exact ⟨_, 0, rfl, c1⟩

set_option maxHeartbeats 6400000 in
theorem walk (a0 a1 a2 a3 : Int) (w : World) (hE : Err.All w [4, 0, 5, 1, 3, 2]) (w0 : (Lit.int .i64 a0).wf = true) (w1 : (Lit.int .i64 a1).wf = true) (w2 : (Lit.int .u32 a2).wf = true) (w3 : (Lit.int .i64 a3).wf = true) :
    Calls Tryd.prog 12 #[.int .i64 a0, .int .i64 a1, .int .u32 a2, .int .i64 a3] w fun e w' => e = .returned (.bool true) ∧ Below w.heap.size w w' := by
  obtain ⟨bs, hB⟩ := Ev.of_all hE six rfl (by decide)
  have h0 := int_of w0
  have h1 := int_of w1
  have h3 := int_of w3
  obtain ⟨t, ht, ht0, ht1⟩ := or_u32 a2 4 (by decide) (by decide)
  simp only [Int.cast_ofNat_Int] at ht
  have HT0 := hid ht0
  have HT1 := hid ht1
  clear hE w0 w1 w2 w3 ht0 ht1
  go_enter Tryd.func12, Tryd.ntmps12
  go_wp2_with fail
  refine (first_w bs w hB).mono ?_
  rintro e w1 ⟨rfl, b1⟩
  have E1 := hid (hB.below b1 |>.mono b1.size)
  have B1 := hid b1
  clear hB b1
  go_wp2_with fail
  refine (NumW.number_w a0 10 _ (by decide) (by decide) h0.1 h0.2).mono ?_
  rintro e w' ⟨rfl, rfl⟩
  obtain ⟨k, hk⟩ := Int.eq_ofNat_of_zero_le (Int.emod_nonneg a0 (show (10 : Int) ≠ 0 by decide))
  have hk9 : k < 10 := by have := Int.emod_lt_of_pos a0 (show (0 : Int) < 10 by decide); omega
  rw [hk]
  clear hk h0
  go_wp2_with fail
  refine (NumW.number_w a1 253 _ (by decide) (by decide) h1.1 h1.2).mono ?_
  rintro e w' ⟨rfl, rfl⟩
  obtain ⟨p, hp⟩ := Int.eq_ofNat_of_zero_le (Int.emod_nonneg a1 (show (253 : Int) ≠ 0 by decide))
  have hp9 : p < 253 := by have := Int.emod_lt_of_pos a1 (show (0 : Int) < 253 by decide); omega
  rw [hp]
  clear hp h1
  go_wp2_with fail
  refine (new_w 400 _ (by decide) (by decide)).mono ?_
  rintro e w6 ⟨rfl, h6, b6, z6⟩
  go_wp2_with fail
  go_loopw [12] (fun iv wr => ∃ (i : Nat) (m : Mp), 1 ≤ i ∧ i ≤ k + 3 ∧ iv = .int .i64 (i : Int) ∧ At wr w1.heap.size (w1.heap.size + 5) (8 * i) m (sv (i - 1)) ∧ Below w1.heap.size w1 wr) (fun iv _ => k + 3 - (intOf iv).toNat)
  case atStart => exact ⟨1, _, by omega, by omega, rfl, h6.mono (by omega) (Nat.le_refl _), b6⟩
  case round =>
    clear h6 b6 z6
    obtain ⟨i, m, i0, i1, rfl, hm, bx⟩ := hrel
    by_cases hlt : i ≤ k + 2
    · have SI := hid (sv_is (i - 1) (by omega))
      have hsv : (sv (i - 1)).saved 100 i (enc (rt i)) = sv i := by
        obtain ⟨j, rfl⟩ : ∃ j, i = j + 1 := ⟨i - 1, by omega⟩
        rfl
      have HSV := hid hsv
      have HF := hid (rt_fine (i := i) (by omega) (by omega))
      clear hsv
      go_wp2_with fail
      refine (made_w (i : Int) _ 2 2 [(i : Int), 5] _ (is_built _ _ _ _) (by decide)).mono ?_
      rintro e w7 ⟨⟨a', c', rfl, hR⟩, b7⟩
      have b8 := below_put (Below.refl wr.heap.size wr) (Nat.le_refl _) _ b7
      have hm7 := hm.below b8
      have bx7 := bx.trans (b8.mono bx.size)
      have hs := save_good bs _ _ _ _ _ (madeR (i : Int) [(i : Int), 5]) a' c' w7 hm7 SI.out.1 (E1.out.below bx7) (by rw [SI.out.2.1]; decide) (by rw [SI.out.2.1]; decide) hR HF.out.g HF.out.s (by omega) (by rw [SI.out.2.2]; omega)
      rw [SI.out.2.1, show GeoW.half 400 = 100 by decide, show (madeR (i : Int) [(i : Int), 5]).ep.toNat = i from Int.toNat_natCast i, show madeR (i : Int) [(i : Int), 5] = rt i from rfl, HSV.out] at hs
      have HO := hid hm7.own_lo
      have BX := hid bx7
      clear hm b7 hR b8 hm7 bx bx7
      go_wp2_with fail
      refine hs.mono ?_
      rintro e w8 ⟨rfl, m8, h8, t8, _⟩
      have B8 := hid (BX.out.trans (t8.below BX.out.size HO.out))
      clear hs t8 HO BX
      go_wp2
      go_roundw
      case rel => exact ⟨i + 1, m8, by omega, by omega, by go_num, h8.mono (by omega) (Nat.le_refl _), B8.out⟩
      case measure => simp [intOf]; omega
    · obtain rfl : i = k + 3 := by omega
      have hm2 : At wr w1.heap.size (w1.heap.size + 5) (8 * (k + 3)) m (sv (k + 2)) := hm
      have HF := hid (sv_full (k := k) (by omega))
      obtain ⟨s, hs⟩ : ∃ s, s = (k + 2) % 2 := ⟨_, rfl⟩
      have hmod : ((k : Int) + 2).tmod 2 = (s : Int) := by
        rw [Int.tmod_eq_emod_of_nonneg (by omega)]; omega
      have HS := hid hs
      have s2 : s < 2 := by omega
      clear hs hm
      generalize sv (k + 2) = E at *
      have H9 := hid hm2
      have B9 := hid bx
      clear hm2 bx i0 i1 hlt
      go_wp2_with fail
      refine (NumW.number_w a3 5 _ (by decide) (by decide) h3.1 h3.2).mono ?_
      rintro e w' ⟨rfl, rfl⟩
      have hc : a3 % 5 = 0 ∨ a3 % 5 = 1 ∨ a3 % 5 = 2 ∨ a3 % 5 = 3 ∨ a3 % 5 = 4 := by omega
      clear h3
      generalize a3 % 5 = c at *
      go_upto_block 2 with fail
      go_cut [14, 15] from 55 to 110 (fun v14 v15 wx => ∃ (F : Dv) (W C : Nat) (m' : Mp), v14 = .int .i64 (W : Int) ∧ v15 = .int .i64 (C : Int) ∧ Tells F W C ∧ 0 < W ∧ W ≤ 12 ∧ At wx w1.heap.size (w1.heap.size + 5) 200 m' F ∧ Below w1.heap.size w1 wx)
      case first =>
        have kw : ((k + 2 : Nat) : Int) = (k : Int) + 2 := by omega
        have kv : ((k + 1 : Nat) : Int) = (k : Int) + 2 - 1 := by omega
        have e1 := hid (show (1 : Int) - (s : Int) = ((1 - s : Nat) : Int) by omega)
        have e2 := hid (show (s : Int) + 100 = ((s + 100 : Nat) : Int) by omega)
        have e3 := hid (show (101 : Int) - (s : Int) = ((101 - s : Nat) : Int) by omega)
        have hp0 : 0 ≤ (p : Int) ∧ (p : Int) ≤ 252 := by omega
        have hp1 : 0 ≤ 252 - (p : Int) ∧ 252 - (p : Int) ≤ 252 := by omega
        have HT := hid ht
        clear ht
        rcases hc with hc | hc | hc | hc | hc
        all_goals
          subst hc
          go_wp2_with fail
        · rw [HT.out]
          refine (spoil_w _ _ _ m _ (s : Int) (p : Int) t _ H9.out (by unfold Fits; omega) (by omega) (by unfold Fits; omega) HT1.out (HF.out.idle.kept _)).mono ?_
          rintro e x7 ⟨rfl, h7, t7⟩
          have B7 := hid (B9.out.trans (t7.below B9.out.size H9.out.own_lo))
          have H7 := hid h7
          clear t7 h7
          go_wp2_with fail
          go_meet
          case rel => exact ⟨_, k + 2, 1, m, by rw [kw], rfl, tells0 HF.out (by omega) HS.out hp0 HT0.out HT1.out, by omega, by omega, H7.out.mono (by omega) (Nat.le_refl _), B7.out⟩
        · rw [e2.out]
          refine (fail_w _ _ _ m _ ((s + 100 : Nat) : Int) _ H9.out (by unfold Fits; omega) (by omega)).mono ?_
          rintro e x7 ⟨rfl, h7, t7⟩
          have B7 := hid (B9.out.trans (t7.below B9.out.size H9.out.own_lo))
          have H7 := hid h7
          clear t7 h7
          go_wp2_with fail
          go_meet
          case rel => exact ⟨_, k + 2, 1, m, by rw [kw], rfl, tells1 HF.out (by omega) HS.out, by omega, by omega, H7.out.mono (by omega) (Nat.le_refl _), B7.out⟩
        · rw [HT.out]
          refine (spoil_w _ _ _ m _ (s : Int) (p : Int) t _ H9.out (by unfold Fits; omega) (by omega) (by unfold Fits; omega) HT1.out (HF.out.idle.kept _)).mono ?_
          rintro e x7 ⟨rfl, h7, t7⟩
          have B7 := hid (B9.out.trans (t7.below B9.out.size H9.out.own_lo))
          have H7 := hid h7
          have I7 := (spoil_one HF.out.idle (HF.out.may s (spot_in s2).1) (rt_fine (i := k + 2) (by omega) (by omega)) (HF.out.new s (by rw [← HS.out]; simp)) hp0 HT0.out HT1.out).1.idle
          clear t7 h7
          have HI7 := hid I7
          clear I7
          go_wp2_with fail
          rw [e1.out]
          refine (fail_w _ _ _ m _ ((1 - s : Nat) : Int) _ H7.out (by unfold Fits; omega) (by omega)).mono ?_
          rintro e x8 ⟨rfl, h8, t8⟩
          have B8 := hid (B7.out.trans (t8.below B7.out.size H7.out.own_lo))
          have H8 := hid h8
          clear t8 h8
          go_wp2_with fail
          go_meet
          case rel => exact ⟨_, k + 2, 1, m, by rw [kw], rfl, tells2 HF.out (by omega) HS.out hp0 HT0.out HT1.out, by omega, by omega, H8.out.mono (by omega) (Nat.le_refl _), B8.out⟩
        · rw [e1.out]
          refine (fail_w _ _ _ m _ ((1 - s : Nat) : Int) _ H9.out (by unfold Fits; omega) (by omega)).mono ?_
          rintro e x7 ⟨rfl, h7, t7⟩
          have B7 := hid (B9.out.trans (t7.below B9.out.size H9.out.own_lo))
          have H7 := hid h7
          have I7 := (fail_one HF.out.idle (HF.out.may (1 - s) (spot_in (by omega)).1)).1.idle
          clear t7 h7
          have HI7 := hid I7
          clear I7
          go_wp2_with fail
          rw [HT.out, e3.out]
          refine (spoil_w _ _ _ m _ ((101 - s : Nat) : Int) (p : Int) t _ H7.out (by unfold Fits; omega) (by omega) (by unfold Fits; omega) HT1.out (HI7.out.kept _)).mono ?_
          rintro e x8 ⟨rfl, h8, t8⟩
          have B8 := hid (B7.out.trans (t8.below B7.out.size H7.out.own_lo))
          have H8 := hid h8
          clear t8 h8
          go_wp2_with fail
          go_meet
          case rel => exact ⟨_, k + 2, 2, m, by rw [kw], rfl, tells3 HF.out (by omega) HS.out hp0 HT0.out HT1.out, by omega, by omega, H8.out.mono (by omega) (Nat.le_refl _), B8.out⟩
        · rw [HT.out]
          refine (spoil_w _ _ _ m _ (s : Int) (p : Int) t _ H9.out (by unfold Fits; omega) (by omega) (by unfold Fits; omega) HT1.out (HF.out.idle.kept _)).mono ?_
          rintro e x7 ⟨rfl, h7, t7⟩
          have B7 := hid (B9.out.trans (t7.below B9.out.size H9.out.own_lo))
          have H7 := hid h7
          have I7 := (spoil_one HF.out.idle (HF.out.may s (spot_in s2).1) (rt_fine (i := k + 2) (by omega) (by omega)) (HF.out.new s (by rw [← HS.out]; simp)) hp0 HT0.out HT1.out).1.idle
          clear t7 h7
          have HI7 := hid I7
          clear I7
          go_wp2_with fail
          rw [HT.out, e2.out]
          refine (spoil_w _ _ _ m _ ((s + 100 : Nat) : Int) (252 - (p : Int)) t _ H7.out (by unfold Fits; omega) (by omega) (by unfold Fits; omega) HT1.out (HI7.out.kept _)).mono ?_
          rintro e x8 ⟨rfl, h8, t8⟩
          have B8 := hid (B7.out.trans (t8.below B7.out.size H7.out.own_lo))
          have H8 := hid h8
          clear t8 h8
          go_wp2_with fail
          go_meet
          case rel => exact ⟨_, k + 1, 2, m, by rw [kv], rfl, tells4 HF.out (by omega) HS.out hp0 hp1 HT0.out HT1.out, by omega, by omega, H8.out.mono (by omega) (Nat.le_refl _), B8.out⟩
      case rest =>
        obtain ⟨F, W, C, m', rfl, rfl, hT, W0, W1, h9, b9⟩ := hcut
        have hfi := rt_fine (i := W) W0 (by omega)
        have hlo := load_w bs _ _ _ _ _ _ h9 (E1.out.below b9) hT.idle.down (by rw [hT.blocks]; decide) (by rw [hT.blocks]; decide) hT.idle.bytes
        have hco := fun w' (hb : Below _ _ w') => copies_w bs _ _ _ _ _ w' (h9.below hb) (E1.out.below (b9.trans (hb.mono b9.size))) hT.idle.down (by rw [hT.blocks]; decide) (by rw [hT.blocks]; decide) hT.idle.bytes W (by rw [hT.blocks, show GeoW.half 400 = 100 by decide, hT.best]; rfl) W0 (by omega)
        rw [hT.blocks, show GeoW.half 400 = 100 by decide, hT.best] at hlo
        rw [hT.blocks, show GeoW.half 400 = 100 by decide, hT.cop] at hco
        have HB9 := hid b9
        have HFI := hid hfi
        clear hT h9 b9 hfi
        go_wp2_with fail
        refine hlo.mono ?_
        rintro e w10 ⟨⟨ar, cr, rfl, hR⟩, b10⟩
        rw [decide_eq_true (show 0 < (rt W).ep by show (0 : Int) < (W : Int); omega)]
        have bx := (Below.refl w10.heap.size w10).alloc (Nat.le_refl _) (.cells #[.int .i64 (rt W).ep, .slice ar (rt W).rs.length cr] 73)
        obtain ⟨x0, x1⟩ := new2 w10 (.int .i64 (rt W).ep) (.slice ar (rt W).rs.length cr) 73
        have X11 := hid (hR.below bx)
        have B11 := hid (b10.trans (bx.mono b10.size))
        clear hlo hR b10 bx
        go_wp2_with fail
        refine (hco _ B11.out).mono ?_
        rintro e w12 ⟨rfl, b12⟩
        replace x0 := kept b12 x0
        replace x1 := kept b12 x1
        have X12 := hid (X11.out.below b12)
        have B12 := hid (HB9.out.trans ((B11.out.trans (b12.mono B11.out.size)).mono HB9.out.size))
        clear hco b12 X11 B11 HB9
        go_wp2_with fail
        have al := ((Below.refl w12.heap.size w12).alloc (Nat.le_refl _) (.cells #[.int .i64 (W : Int), .int .i64 5] 3)).drew
        go_region_held3 (fun w' => w'.cell? ⟨w10.heap.size, 0, none⟩ = some (.int .i64 (rt W).ep) ∧ w'.cell? ⟨w10.heap.size, 1, none⟩ = some (.slice ar (rt W).rs.length cr))
          (first | exact ⟨x0, x1⟩ | exact ⟨kept al x0, kept al x1⟩ | exact ⟨kept b13 (kept al x0), kept b13 (kept al x1)⟩ | exact ⟨kept b14 (kept b13 (kept al x0)), kept b14 (kept b13 (kept al x1))⟩ | go_keep)
          (first
            | (go_at_call 43; refine (made_w (W : Int) _ 2 2 [(W : Int), 5] _ ((is_built _ _ _ _).below (Below.refl _ _).drew) (by decide)).mono ?_; rintro e w13 ⟨⟨am, cm, rfl, hM⟩, b13⟩)
            | (go_at_call 46; refine (same_w (rt W) (rt W) ar am cr cm w13 ((X12.out.below al).below b13) hM).mono ?_; rintro e w14 ⟨rfl, b14⟩; rw [decide_eq_true rfl]))
        have B14 := B12.out.trans ((al.trans (b13.mono al.size)).trans (b14.mono (Nat.le_trans al.size b13.size)) |>.mono B12.out.size)
        have BF := B1.out.trans (B14.mono B1.out.size)
        clear b13 b14 hM al B14
        go_wp2_with fail
        go_ret
        exact ⟨rfl, BF⟩
end Go.Proofs.YtjecnjgngahmfaaDoor.rootFaults
