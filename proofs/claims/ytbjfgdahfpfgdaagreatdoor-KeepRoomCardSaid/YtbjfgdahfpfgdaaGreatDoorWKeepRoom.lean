/- The walk of KeepRoom. -/
import Derived.Test.YtbjfgdahfpfgdaaGreatDoorKeepRoomP25
namespace Go.Proofs.YtbjfgdahfpfgdaaGreatDoor.keepRoom
open Go Go.RowKit Go.Maps Go.Proofs.YtbjfgdahfpfgdaaGreatDoor.Mem Go.Proofs.YtbjfgdahfpfgdaaGreatDoor.MapsW Go.Proofs.YtbjfgdahfpfgdaaGreatDoor.DevG Go.Proofs.YtbjfgdahfpfgdaaGreatDoor.Text Go.Proofs.YtbjfgdahfpfgdaaGreatDoor.KeepP Go.Proofs.YtbjfgdahfpfgdaaGreatDoor.SeeW Go.Proofs.YtbjfgdahfpfgdaaGreatDoor.PgP Go.Proofs.YtbjfgdahfpfgdaaGreatDoor.PgW Go.Proofs.YtbjfgdahfpfgdaaGreatDoor.KeepW
set_option linter.unusedVariables false
set_option maxRecDepth 100000

set_option maxHeartbeats 6400000 in
theorem walk (a0 a1 a2 : Int) (w : World) (hE : Err.All w [1, 0, 6, 2, 5, 4, 3]) (w0 : (Lit.int .i64 a0).wf = true) (w1 : (Lit.int .i64 a1).wf = true) (w2 : (Lit.int .i64 a2).wf = true) :
    Calls Tryz.prog 8 #[.int .i64 a0, .int .i64 a1, .int .i64 a2] w fun e w' => e = .returned (.bool true) ∧ Below w.heap.size w w' := by
  obtain ⟨bs, hB⟩ := ev7_of hE
  have h0 := int_of w0
  have h1 := int_of w1
  have h2 := int_of w2
  obtain ⟨b, hb⟩ := Int.eq_ofNat_of_zero_le (Int.emod_nonneg a1 (show (900 : Int) ≠ 0 by decide))
  have hb9 : b < 900 := by have := Int.emod_lt_of_pos a1 (show (0 : Int) < 900 by decide); omega
  obtain ⟨q, hq⟩ := Int.eq_ofNat_of_zero_le (Int.emod_nonneg a2 (show (40 : Int) ≠ 0 by decide))
  have hq4 : q < 40 := by have := Int.emod_lt_of_pos a2 (show (0 : Int) < 40 by decide); omega
  have HB := hid hB
  have HF := hid (KeepW.first_w bs w (hB.sub (by decide)))
  clear hE w0 w1 w2 hB
  have f0 : IntKind.i64.wrap ((b : Int) + 300) = ((b + 300 : Nat) : Int) := by rw [IntKind.wrap_i64]; omega
  have f1 : IntKind.i64.wrap ((q : Int) + 1) = ((q + 1 : Nat) : Int) := by rw [IntKind.wrap_i64]; omega
  obtain ⟨B, hBb⟩ : ∃ B, B = b + 300 := ⟨_, rfl⟩
  obtain ⟨Q, hQq⟩ : ∃ Q, Q = q + 1 := ⟨_, rfl⟩
  rw [← hBb] at f0
  rw [← hQq] at f1
  have hB3 : 300 ≤ B := by omega
  have hB8 : B < 1200 := by omega
  have hQ1 : 1 ≤ Q := by omega
  have hQ5 : Q ≤ 40 := by omega
  obtain ⟨H, hH⟩ : ∃ H, H = B / 4 := ⟨_, rfl⟩
  have HH := hid (show GeoW.half B = H by unfold GeoW.half; omega)
  have hH1 : 75 ≤ H := by omega
  have hH2 : H < 300 := by omega
  have f2 : (B : Int) / 4 = (H : Int) := by omega
  have f3 : IntKind.i64.wrap ((H : Int) - 39) = ((H - 39 : Nat) : Int) := by rw [IntKind.wrap_i64]; omega
  have f4 : IntKind.i64.wrap ((B : Int) / 4) = (H : Int) := by rw [IntKind.wrap_i64]; omega
  obtain ⟨M, hM⟩ : ∃ M, M = H - 39 := ⟨_, rfl⟩
  rw [← hM] at f3
  obtain ⟨n, hn⟩ := Int.eq_ofNat_of_zero_le (Int.emod_nonneg a0 (show (M : Int) ≠ 0 by omega))
  have hn4 : n < M := by have := Int.emod_lt_of_pos a0 (show (0 : Int) < M by omega); omega
  have hnH : n + 40 ≤ H := by omega
  have hM1 : 0 < M := by omega
  have hM2 : M < 300 := by omega
  clear hBb hQq hb9 hq4 hH hM
  go_enter Tryz.func8, Tryz.ntmps8
  go_wp2_with fail
  refine HF.out.mono ?_
  rintro e w1 ⟨rfl, b1⟩
  have HB1 := hid b1
  have HV1 := hid (HB.out.below b1)
  clear b1
  go_wp2_with fail
  refine (NumW.number_w a1 900 _ (by decide) (by decide) h1.1 h1.2).mono ?_
  rintro e w' ⟨rfl, rfl⟩
  rw [hb]
  clear hb h1
  go_wp2_with fail
  refine (NumW.number_w a0 M _ (by omega) (by omega) h0.1 h0.2).mono ?_
  rintro e w' ⟨rfl, rfl⟩
  rw [hn]
  clear hn h0
  go_wp2_with fail
  refine (NumW.number_w a2 40 _ (by decide) (by decide) h2.1 h2.2).mono ?_
  rintro e w' ⟨rfl, rfl⟩
  rw [hq]
  clear hq h2
  have hop := opened8_w bs w1.heap.size B w1 (HV1.out.mono HB1.out.size) (Nat.le_refl _) hB3 (by omega)
  go_wp2_with fail
  refine hop.mono ?_
  rintro e w3 ⟨⟨q, d, s, l, rfl, K3⟩, b3⟩
  have HK3 := hid (show KS bs w1.heap.size B s d q l 0 w3 from ⟨_, _, _, _, _, _, _, _, RInv.none, by omega, by omega, by omega, by simp, K3⟩)
  have HB3 := hid b3
  clear hop K3 b3
  go_wp2_with fail
  go_loopw [10] (fun iv wr => ∃ j : Nat, j ≤ n ∧ iv = .int .i64 j ∧ KS bs w1.heap.size B s d q l j wr ∧ Below w1.heap.size w1 wr) (fun iv _ => n - (RowKit.intOf iv).toNat)
  case atStart => exact ⟨0, by omega, rfl, HK3.out, HB3.out⟩
  case round =>
    obtain ⟨j, hj, rfl, K, hbr⟩ := hrel
    have HBR := hid hbr
    by_cases hlt : j < n
    · have HKJ := hid K
      clear K hbr
      have hky := bytes3 wr (j * 7 % 256) (j % 256) (j / 256 % 256)
      rw [← key3_nat] at hky
      obtain ⟨x0, hx0⟩ : ∃ x, x = j * 7 % 256 := ⟨_, rfl⟩
      obtain ⟨x1, hx1⟩ : ∃ x, x = j % 256 := ⟨_, rfl⟩
      obtain ⟨x2, hx2⟩ : ∃ x, x = j / 256 % 256 := ⟨_, rfl⟩
      obtain ⟨y0, hy0⟩ : ∃ x, x = j * 7 := ⟨_, rfl⟩
      obtain ⟨y2, hy2⟩ : ∃ x, x = j / 256 := ⟨_, rfl⟩
      have g0 : (j : Int) * 7 = (y0 : Int) := by omega
      have g1 : IntKind.i64.wrap (y0 : Int) = (y0 : Int) := by rw [IntKind.wrap_i64]; omega
      have g2 : IntKind.u8.wrap (y0 : Int) = (x0 : Int) := by rw [IntKind.wrap_u8]; omega
      have g3 : IntKind.u8.wrap (j : Int) = (x1 : Int) := by rw [IntKind.wrap_u8]; omega
      have g4 : (j : Int) / 256 = (y2 : Int) := by omega
      have g5 : IntKind.u8.wrap (y2 : Int) = (x2 : Int) := by rw [IntKind.wrap_u8]; omega
      have g6 : (y0 : Int) % 256 = (x0 : Int) := by omega
      have g7 : (j : Int) % 256 = (x1 : Int) := by omega
      have g8 : (y2 : Int) % 256 = (x2 : Int) := by omega
      rw [← hx0, ← hx1, ← hx2] at hky
      have bA := (Below.refl wr.heap.size wr).alloc (Nat.le_refl _) (.cells #[.int .u8 (x0 : Int), .int .u8 (x1 : Int), .int .u8 (x2 : Int)] 5)
      have hy9 : y0 < 3000 := by omega
      obtain ⟨Z, hmk, hz⟩ := make57
      have bZ := bA.trans (((Below.refl _ (wr.alloc (.cells #[.int .u8 (x0 : Int), .int .u8 (x1 : Int), .int .u8 (x2 : Int)] 5))).alloc (Nat.le_refl _) (.cells Z 5)).mono bA.size)
      have hzn := hz (wr.alloc (.cells #[.int .u8 (x0 : Int), .int .u8 (x1 : Int), .int .u8 (x2 : Int)] 5))
      rw [show (wr.alloc (.cells #[.int .u8 (x0 : Int), .int .u8 (x1 : Int), .int .u8 (x2 : Int)] 5)).heap.size = wr.heap.size + 1 by simp] at hzn
      have hpt := (HKJ.out.below bZ).put (by omega) (Nums.below hky ((Below.refl _ _).alloc (Nat.le_refl _) (.cells Z 5))) hzn
      have HBZ := hid (HBR.out.trans (bZ.mono HBR.out.size))
      clear hx0 hx1 hx2 hy0 hy2 hky bA bZ hz hzn HKJ
      go_wp2_with fail
      refine hpt.mono ?_
      rintro e w4 ⟨rfl, K4, b4⟩
      have HB4 := hid (HBZ.out.trans b4)
      clear hpt b4
      by_cases hm : j % Q = 0
      · have hm1 : ((j : Int) % (Q : Int) == 0) = true := by rw [beq_iff_eq]; omega
        have hco := K4.commit (by omega) (by rw [HH.out]; omega)
        clear K4
        go_wp2_with fail
        refine hco.mono ?_
        rintro e w5 ⟨rfl, K5, b5⟩
        have HK5 := hid K5
        have HB5 := hid (HB4.out.trans b5)
        clear hco K5 b5 hm
        go_wp2_with fail
        go_roundw
        case rel => exact ⟨j + 1, by omega, by go_num, HK5.out, HB5.out⟩
        case measure => simp [RowKit.intOf]; omega
      · have hm1 : ((j : Int) % (Q : Int) == 0) = false := by
          rw [beq_eq_false_iff_ne]
          intro e
          exact hm (by omega)
        have HK5 := hid K4.skip
        clear K4 hm
        go_wp2_with fail
        go_roundw
        case rel => exact ⟨j + 1, by omega, by go_num, HK5.out, HB4.out⟩
        case measure => simp [RowKit.intOf]; omega
    · obtain rfl : j = n := by omega
      have hl := K.last (by omega) (by rw [HH.out]; exact hnH)
      clear K hbr
      go_wp2_with fail
      refine hl.mono ?_
      rintro e w4 ⟨rfl, hre, b4⟩
      have HB4 := hid (HBR.out.trans b4)
      clear hl b4
      go_wp2_with fail
      refine hre.mono ?_
      rintro e w5 ⟨⟨B', k', l', nk', F', rfl, hK⟩, b5⟩
      have HB5 := hid (HB1.out.trans ((HB4.out.trans b5).mono HB1.out.size))
      have hln := len_w B' k' l' nk' j F' w5 hK
      clear hre b5 hK
      go_wp2_with fail
      refine hln.mono ?_
      rintro e w6 ⟨rfl, rfl⟩
      clear hln
      go_wp2_with fail
      go_ret
      exact ⟨rfl, HB5.out⟩
end Go.Proofs.YtbjfgdahfpfgdaaGreatDoor.keepRoom
