/- The walk of PageRoom. -/
import Derived.Test.YtbjfgdahfpfgdaaGreatDoorPageRoomP12
namespace Go.Proofs.YtbjfgdahfpfgdaaGreatDoor.pageRoom
open Go Go.RowKit Go.Maps Go.Proofs.YtbjfgdahfpfgdaaGreatDoor.Mem Go.Proofs.YtbjfgdahfpfgdaaGreatDoor.MapsW Go.Proofs.YtbjfgdahfpfgdaaGreatDoor.SeeW Go.Proofs.YtbjfgdahfpfgdaaGreatDoor.DevG Go.Proofs.YtbjfgdahfpfgdaaGreatDoor.PgP Go.Proofs.YtbjfgdahfpfgdaaGreatDoor.PgW
set_option linter.unusedVariables false
set_option maxRecDepth 100000

set_option maxHeartbeats 16000000 in
theorem walk (a0 a1 a2 : Int) (w : World) (hE : Err.All w gl) (w0 : (Lit.int .i64 a0).wf = true) (w1 : (Lit.int .i64 a1).wf = true) (w2 : (Lit.int .i64 a2).wf = true) :
    Calls Tryz.prog 3 #[.int .i64 a0, .int .i64 a1, .int .i64 a2] w fun e w' => e = .returned (.bool true) ∧ Below w.heap.size w w' := by
  obtain ⟨bs, hB⟩ := bs_of hE
  have h0 := int_of w0
  have h1 := int_of w1
  have h2 := int_of w2
  obtain ⟨b, hb⟩ := Int.eq_ofNat_of_zero_le (Int.emod_nonneg a0 (show (500 : Int) ≠ 0 by decide))
  have hb4 : b < 500 := by have := Int.emod_lt_of_pos a0 (show (0 : Int) < 500 by decide); omega
  obtain ⟨n, hn⟩ := Int.eq_ofNat_of_zero_le (Int.emod_nonneg a1 (show (120 : Int) ≠ 0 by decide))
  have hn4 : n < 120 := by have := Int.emod_lt_of_pos a1 (show (0 : Int) < 120 by decide); omega
  obtain ⟨q, hq⟩ := Int.eq_ofNat_of_zero_le (Int.emod_nonneg a2 (show (5 : Int) ≠ 0 by decide))
  have hq4 : q < 5 := by have := Int.emod_lt_of_pos a2 (show (0 : Int) < 5 by decide); omega
  have HB := hid hB
  have HF := hid (first_w bs w (Ev.of_bs hB seven (by decide)))
  clear hE w0 w1 w2 hB
  have f0 : IntKind.i64.wrap ((b : Int) + 300) = ((b + 300 : Nat) : Int) := by rw [IntKind.wrap_i64]; omega
  have f1 : IntKind.i64.wrap ((q : Int) + 1) = ((q + 1 : Nat) : Int) := by rw [IntKind.wrap_i64]; omega
  obtain ⟨B, hBb⟩ : ∃ B, B = b + 300 := ⟨_, rfl⟩
  obtain ⟨Q, hQq⟩ : ∃ Q, Q = q + 1 := ⟨_, rfl⟩
  rw [← hBb] at f0
  rw [← hQq] at f1
  have hB3 : 300 ≤ B := by omega
  have hB8 : B < 800 := by omega
  have hQ1 : 1 ≤ Q := by omega
  have hQ5 : Q ≤ 5 := by omega
  clear hBb hQq hb4 hq4
  go_enter Tryz.func3, Tryz.ntmps3
  go_wp2_with fail
  refine HF.out.mono ?_
  rintro e w1 ⟨rfl, b1⟩
  have HB1 := hid b1
  have HV1 := hid ((Ev.of_bs HB.out seven (by decide)).below b1)
  clear b1
  go_wp2_with fail
  refine (NumW.number_w a0 500 _ (by decide) (by decide) h0.1 h0.2).mono ?_
  rintro e w' ⟨rfl, rfl⟩
  rw [hb]
  clear hb h0
  go_wp2_with fail
  refine (NumW.number_w a1 120 _ (by decide) (by decide) h1.1 h1.2).mono ?_
  rintro e w' ⟨rfl, rfl⟩
  rw [hn]
  clear hn h1
  go_wp2_with fail
  refine (NumW.number_w a2 5 _ (by decide) (by decide) h2.1 h2.2).mono ?_
  rintro e w' ⟨rfl, rfl⟩
  rw [hq]
  clear hq h2
  have h512 := GeoW.half_512 B
  have hgeo := rgeo_w B w1 hB3 (by omega)
  obtain ⟨H, hH⟩ : ∃ H, GeoW.half B = H := ⟨_, rfl⟩
  rw [hH] at hgeo h512
  have HHH := hid hH
  clear hH
  go_wp2_with fail
  refine hgeo.mono ?_
  rintro e w2 ⟨rfl, b2⟩
  have bA := (Below.refl w2.heap.size w2).alloc (Nat.le_refl _) (.cells #[.int .i64 (B : Int), .int .i64 (H : Int)] 25)
  obtain ⟨q0, q1⟩ := new2 w2 (.int .i64 (B : Int)) (.int .i64 (H : Int)) 25
  have B2 := HB1.out.trans ((b2.trans (bA.mono b2.size)).mono HB1.out.size)
  have hop := opened_w bs _ B _ (((HV1.out.below b2).below bA).mono B2.size) (Nat.le_refl _) hB3 (by omega)
  have HB2 := hid B2
  clear hgeo b2 bA B2
  have hgx : w2.heap.size < (w2.alloc (.cells #[.int .i64 (B : Int), .int .i64 (H : Int)] 25)).heap.size := by simp
  go_wp2_with fail
  generalize w2.alloc (.cells #[.int .i64 (B : Int), .int .i64 (H : Int)] 25) = W at *
  generalize w2.heap.size = gx at *
  refine hop.mono ?_
  rintro e w3 ⟨s, d, rfl, K3, b3⟩
  have HK3 := hid K3
  have HB3 := hid b3
  have HG := hid (And.intro q1 hgx)
  have HBW := hid HB2.out
  have hgc : ∀ wx, Below W.heap.size W wx → wx.cell? ⟨gx, 1, none⟩ = some (.int .i64 (H : Int)) := fun wx hb => kept hb HG.out.1
  have HGC := hid hgc
  clear hop K3 b3 q0 q1 hgc
  go_wp2_with fail
  go_loopw [12, 13] (fun kv rv wr => ∃ r : Nat, r ≤ Q ∧ kv = .int .i64 r ∧ rv = .int .i64 r ∧ ∃ nn c ep, nn ≤ 400 + 4000 * r ∧ c ≤ 1000 * r ∧ ep ≤ r ∧ Store [] bs wr W.heap.size B nn c s d (Pv n r) Non ep ∧ Below W.heap.size W wr) (fun _ rv _ => Q - (RowKit.intOf rv).toNat)
  case atStart => exact ⟨0, by omega, rfl, rfl, 400, 0, 0, by omega, by omega, by omega, by rw [Pv_zero]; exact HK3.out, HB3.out⟩
  case round =>
    obtain ⟨r, hr, rfl, rfl, nn, c, ep, hnn, hc, hep, K, bR⟩ := hrel
    have HK := hid K
    have HBR := hid bR
    clear K bR
    by_cases hlt : r < Q
    · go_wp2_with fail
      go_loopw [14] (fun iv wr => ∃ k : Nat, k ≤ n ∧ iv = .int .i64 k ∧ Store [] bs wr W.heap.size B (nn + k) c s d (Pv n r) (Nw (r + 1) k) ep ∧ Below W.heap.size W wr) (fun iv _ => n - (RowKit.intOf iv).toNat)
      case atStart => exact ⟨0, by omega, rfl, by rw [Nw_zero]; exact HK.out, HBR.out⟩
      case round =>
        obtain ⟨k, hk, rfl, K1, bk⟩ := hrel
        by_cases hkl : k < n
        · have fr : IntKind.i64.wrap ((r : Int) + 1) = ((r + 1 : Nat) : Int) := by rw [IntKind.wrap_i64]; omega
          have fr8 : IntKind.u8.wrap ((r + 1 : Nat) : Int) = ((r + 1 : Nat) : Int) := by rw [IntKind.wrap_u8]; omega
          have fk8 : IntKind.u8.wrap (k : Int) = (k : Int) := by rw [IntKind.wrap_u8]; omega
          have bA := (Below.refl wr.heap.size wr).alloc (Nat.le_refl _) (.cells #[.int .u8 ((r + 1 : Nat) : Int), .int .u8 (k : Int)] 5)
          have hw := (K1.below bA).write (by omega) (p := (k : Int)) (isP_of (by omega)) (bytes2 wr (r + 1) k) (by simp) (by simp) (by intro x hx; simp at hx; omega)
          rw [Nw_succ] at hw
          have HBk := hid (bk.trans (bA.mono bk.size))
          clear K1 bk bA
          go_wp2_with fail
          refine hw.mono ?_
          rintro e w5 ⟨rfl, K5, b5, _⟩
          have H5 := hid K5
          have HB5 := hid (HBk.out.trans b5)
          clear hw K5 b5
          go_wp2_with fail
          go_roundw
          case rel => exact ⟨k + 1, by omega, by go_num, H5.out, HB5.out⟩
          case measure => simp [RowKit.intOf]; omega
        · have hkn : k = n := by omega
          subst k
          have hce := cnt_le256 (Nw (r + 1) n)
          have HK1 := hid K1
          have HBk := hid bk
          clear K1 bk
          by_cases hk0 : n = 0
          · have hN : Nw (r + 1) n = Non := by rw [hk0]; exact Nw_zero _
            have hPV := hid (show Pv n r = Pv n (r + 1) by rw [hk0, Pv_none, Pv_none])
            have hc0 := HK1.out.commit0 (by omega) (by omega) (by omega) (by rw [hN]; exact non_cnt)
            rw [hN, non_cnt] at hc0
            clear HK1 hk0 hN hce
            go_wp2_with fail
            refine hc0.mono ?_
            rintro e w5 ⟨rfl, K5, b5, _⟩
            have H5 := hid K5
            have HB5 := hid (HBk.out.trans b5)
            have fr : IntKind.i64.wrap ((r : Int) + 1) = ((r + 1 : Nat) : Int) := by rw [IntKind.wrap_i64]; omega
            clear hc0 K5 b5
            go_wp2_with fail
            go_roundw
            case rel =>
              refine ⟨r + 1, by omega, by go_num, by go_num, nn + n + 8 * (0 + 7) + 700, c, ep, by omega, by omega, by omega, ?_, HB5.out⟩
              rw [← hPV.out]
              exact H5.out
            case measure => simp [RowKit.intOf]; omega
          · have hne : cnt (Nw (r + 1) n) ≠ 0 := Nw_cnt (by omega) (by omega)
            have hfu := HK1.out.full (by omega) (by omega) (by omega) hne
            rw [Nw_view] at hfu
            have hv1 := Pv_cnt n r
            have hv2 := Pv_cnt n (r + 1)
            obtain ⟨N8, hN8⟩ : ∃ N8, N8 = nn + n + 8 * (cnt (Nw (r + 1) n) + 7) + 700 := ⟨_, rfl⟩
            obtain ⟨C8, hC8⟩ : ∃ C8, C8 = c + 2 * (cnt (Nw (r + 1) n) + 7) + 4 := ⟨_, rfl⟩
            rw [← hN8, ← hC8] at hfu
            have hN8' : N8 ≤ nn + 120 + 2804 := by omega
            have hC8' : C8 ≤ c + 530 := by omega
            clear HK1 hN8 hC8 hne hce
            go_wp2_with fail
            refine hfu.mono ?_
            rintro e w5 ⟨(⟨rfl, c5, hc5, K5⟩ | ⟨⟨a4, ha4, rfl⟩, K5, hno⟩), b5, _⟩
            · have H5 := hid K5
              have HB5 := hid (HBk.out.trans b5)
              have fr : IntKind.i64.wrap ((r : Int) + 1) = ((r + 1 : Nat) : Int) := by rw [IntKind.wrap_i64]; omega
              clear hfu K5 b5
              go_wp2_with fail
              go_roundw
              case rel => exact ⟨r + 1, by omega, by go_num, by go_num, N8, c5, ep + 1, by omega, by omega, by omega, H5.out, HB5.out⟩
              case measure => simp [RowKit.intOf]; omega
            · have hH5 := hno n hv1 hv2
              rw [HHH.out] at hH5
              have hle : decide (((2 * n : Nat) : Int) + 40 ≤ (H : Int)) = false := decide_eq_false (by omega)
              have H5 := hid K5
              have HB5' := hid (HBk.out.trans b5)
              have his := is_w bs w5 (HB.out.below (HBW.out.trans (HB5'.out.mono HBW.out.size))) 4 a4 ha4 105
              have e105 : ((101 : Int) + ((4 : Nat) : Int) == 105) = true := by decide
              rw [e105] at his
              have f2 : IntKind.i64.wrap (2 * (n : Int)) = 2 * (n : Int) := by rw [IntKind.wrap_i64]; omega
              have f4 : IntKind.i64.wrap (2 * (n : Int) + 40) = 2 * (n : Int) + 40 := by rw [IntKind.wrap_i64]; omega
              have hle' : decide (2 * (n : Int) + 40 ≤ (H : Int)) = false := decide_eq_false (by omega)
              clear hfu K5 b5 hno
              go_wp2_with fail
              refine his.mono ?_
              rintro e w6 ⟨rfl, b6⟩
              have H6 := hid (H5.out.below b6)
              have HB6 := hid (HB5'.out.trans (b6.mono HB5'.out.size))
              have hg6 := HGC.out w6 HB6.out
              have hop := H6.out.open_ (by omega) (by omega) (by omega)
              clear his b6
              have HB5 := hid HB6.out
              have hpn : ∀ k : Nat, k < n → view Non (Pv n r) (k : Int) = if 0 < r then some [r, k] else none := fun k hk => Pv_at hk
              have HPN := hid hpn
              clear hpn
              go_wp2_with fail
              refine hop.mono ?_
              rintro e w7 ⟨⟨s7, rfl, K7⟩, b7, _⟩
              have H7 := hid K7
              have HB7 := hid (HB5.out.trans b7)
              clear hop K7 b7
              go_wp2_with fail
              go_loopw [18] (fun iv wr => ∃ k : Nat, k ≤ n ∧ iv = .int .i64 k ∧ Store [] bs wr W.heap.size B (N8 + 400 + k) c s7 d (Pv n r) (fun _ => none) ep ∧ Below W.heap.size W wr) (fun iv _ => n - (RowKit.intOf iv).toNat)
              case atStart => exact ⟨0, by omega, rfl, H7.out, HB7.out⟩
              case round =>
                obtain ⟨k, hk, rfl, K1, bk⟩ := hrel
                by_cases hkl : k < n
                · have hrd := K1.read (by omega) (by omega) (p := (k : Int)) (isP_of (by omega))
                  rw [show view (fun _ => none) (Pv n r) (k : Int) = if 0 < r then some [r, k] else none from HPN.out k hkl] at hrd
                  have HBk := hid bk
                  clear K1 bk
                  by_cases hr0 : 0 < r
                  · rw [if_pos hr0] at hrd
                    have hri : decide ((0 : Int) < (r : Int)) = true := decide_eq_true (by omega)
                    have fr8 : IntKind.u8.wrap (r : Int) = (r : Int) := by rw [IntKind.wrap_u8]; omega
                    have fk8 : IntKind.u8.wrap (k : Int) = (k : Int) := by rw [IntKind.wrap_u8]; omega
                    go_wp2_with fail
                    refine hrd.mono ?_
                    rintro e w8 ⟨⟨a8, cap8, rfl, n8⟩, K8, b8, _, _⟩
                    have bA := (Below.refl w8.heap.size w8).alloc (Nat.le_refl _) (.cells #[.int .u8 (r : Int), .int .u8 (k : Int)] 5)
                    have hsm := RefW.same_w a8 2 cap8 [r, k] (some ⟨w8.heap.size, 0, none⟩) 2 2 [r, k] _ (n8.below bA) (bytes2 w8 r k)
                    rw [decide_eq_true rfl] at hsm
                    have H8 := hid (K8.below bA)
                    have HB8 := hid ((HBk.out.trans b8).trans (bA.mono (HBk.out.trans b8).size))
                    clear hrd K8 b8 n8 bA
                    go_wp2_with fail
                    refine hsm.mono ?_
                    rintro e w9 ⟨rfl, b9⟩
                    have H9 := hid (H8.out.below b9)
                    have HB9 := hid (HB8.out.trans (b9.mono HB8.out.size))
                    clear hsm b9
                    go_wp2_with fail
                    go_roundw
                    case rel => exact ⟨k + 1, by omega, by go_num, H9.out, HB9.out⟩
                    case measure => simp [RowKit.intOf]; omega
                  · rw [if_neg hr0] at hrd
                    have hri : decide ((0 : Int) < (r : Int)) = false := decide_eq_false (by omega)
                    go_wp2_with fail
                    refine hrd.mono ?_
                    rintro e w8 ⟨⟨a8, ha8, rfl⟩, K8, b8, _, _⟩
                    have H8 := hid K8
                    have HB8 := hid (HBk.out.trans b8)
                    clear hrd K8 b8
                    go_wp2_with fail
                    go_roundw
                    case rel => exact ⟨k + 1, by omega, by go_num, H8.out, HB8.out⟩
                    case measure => simp [RowKit.intOf]; omega
                · have HF := hid (HBW.out.trans (bk.mono HBW.out.size))
                  clear K1 bk
                  go_wp2_with fail
                  go_ret
                  exact ⟨rfl, HF.out⟩
    · obtain rfl : r = Q := by omega
      have hop := HK.out.open_ (by omega) (by omega) (by omega)
      have HB5 := hid HBR.out
      have hpn : ∀ k : Nat, k < n → view Non (Pv n r) (k : Int) = if 0 < r then some [r, k] else none := fun k hk => Pv_at hk
      have HPN := hid hpn
      clear hpn
      go_wp2_with fail
      refine hop.mono ?_
      rintro e w7 ⟨⟨s7, rfl, K7⟩, b7, _⟩
      have H7 := hid K7
      have HB7 := hid (HB5.out.trans b7)
      clear hop K7 b7
      go_wp2_with fail
      go_loopw [18] (fun iv wr => ∃ k : Nat, k ≤ n ∧ iv = .int .i64 k ∧ Store [] bs wr W.heap.size B (nn + 400 + k) c s7 d (Pv n r) (fun _ => none) ep ∧ Below W.heap.size W wr) (fun iv _ => n - (RowKit.intOf iv).toNat)
      case atStart => exact ⟨0, by omega, rfl, H7.out, HB7.out⟩
      case round =>
        obtain ⟨k, hk, rfl, K1, bk⟩ := hrel
        by_cases hkl : k < n
        · have hrd := K1.read (by omega) (by omega) (p := (k : Int)) (isP_of (by omega))
          rw [show view (fun _ => none) (Pv n r) (k : Int) = if 0 < r then some [r, k] else none from HPN.out k hkl] at hrd
          have HBk := hid bk
          clear K1 bk
          by_cases hr0 : 0 < r
          · rw [if_pos hr0] at hrd
            have hri : decide ((0 : Int) < (r : Int)) = true := decide_eq_true (by omega)
            have fr8 : IntKind.u8.wrap (r : Int) = (r : Int) := by rw [IntKind.wrap_u8]; omega
            have fk8 : IntKind.u8.wrap (k : Int) = (k : Int) := by rw [IntKind.wrap_u8]; omega
            go_wp2_with fail
            refine hrd.mono ?_
            rintro e w8 ⟨⟨a8, cap8, rfl, n8⟩, K8, b8, _, _⟩
            have bA := (Below.refl w8.heap.size w8).alloc (Nat.le_refl _) (.cells #[.int .u8 (r : Int), .int .u8 (k : Int)] 5)
            have hsm := RefW.same_w a8 2 cap8 [r, k] (some ⟨w8.heap.size, 0, none⟩) 2 2 [r, k] _ (n8.below bA) (bytes2 w8 r k)
            rw [decide_eq_true rfl] at hsm
            have H8 := hid (K8.below bA)
            have HB8 := hid ((HBk.out.trans b8).trans (bA.mono (HBk.out.trans b8).size))
            clear hrd K8 b8 n8 bA
            go_wp2_with fail
            refine hsm.mono ?_
            rintro e w9 ⟨rfl, b9⟩
            have H9 := hid (H8.out.below b9)
            have HB9 := hid (HB8.out.trans (b9.mono HB8.out.size))
            clear hsm b9
            go_wp2_with fail
            go_roundw
            case rel => exact ⟨k + 1, by omega, by go_num, H9.out, HB9.out⟩
            case measure => simp [RowKit.intOf]; omega
          · rw [if_neg hr0] at hrd
            have hri : decide ((0 : Int) < (r : Int)) = false := decide_eq_false (by omega)
            go_wp2_with fail
            refine hrd.mono ?_
            rintro e w8 ⟨⟨a8, ha8, rfl⟩, K8, b8, _, _⟩
            have H8 := hid K8
            have HB8 := hid (HBk.out.trans b8)
            clear hrd K8 b8
            go_wp2_with fail
            go_roundw
            case rel => exact ⟨k + 1, by omega, by go_num, H8.out, HB8.out⟩
            case measure => simp [RowKit.intOf]; omega
        · have HF := hid (HBW.out.trans (bk.mono HBW.out.size))
          clear K1 bk
          go_wp2_with fail
          go_ret
          exact ⟨rfl, HF.out⟩
end Go.Proofs.YtbjfgdahfpfgdaaGreatDoor.pageRoom
