/- The walk of KeepFaults. -/
import Derived.Test.YtbjfgdahfpfgdaaGreatDoorKeepFaultsP25
import Derived.Test.YtbjfgdahfpfgdaaGreatDoorKeepFaultsP9
namespace Go.Proofs.YtbjfgdahfpfgdaaGreatDoor.keepFaults
open Go Go.RowKit Go.Maps Go.Proofs.YtbjfgdahfpfgdaaGreatDoor.Mem Go.Proofs.YtbjfgdahfpfgdaaGreatDoor.MapsW Go.Proofs.YtbjfgdahfpfgdaaGreatDoor.DevG Go.Proofs.YtbjfgdahfpfgdaaGreatDoor.Text Go.Proofs.YtbjfgdahfpfgdaaGreatDoor.KeepP Go.Proofs.YtbjfgdahfpfgdaaGreatDoor.SeeW Go.Proofs.YtbjfgdahfpfgdaaGreatDoor.PgP Go.Proofs.YtbjfgdahfpfgdaaGreatDoor.PgW Go.Proofs.YtbjfgdahfpfgdaaGreatDoor.KeepW Go.Proofs.YtbjfgdahfpfgdaaGreatDoor.NumW Go.Proofs.YtbjfgdahfpfgdaaGreatDoor.Ints
set_option linter.unusedVariables false
set_option maxRecDepth 100000

theorem bytes2k (w : World) (x y : Nat) : Nums .u8 (w.alloc (.cells #[.int .u8 (x : Int), .int .u8 (y : Int)] 5)) (some ⟨w.heap.size, 0, none⟩) 2 2 [x, y] := by
  refine ⟨rfl, Nat.le_refl _, by decide, (fun e => nomatch e), fun j u hj => ⟨_, _, rfl, ?_⟩⟩
  match j, hj with
  | 0, hj => cases hj; rw [World.cell?, heap_alloc_new]; rfl
  | 1, hj => cases hj; rw [World.cell?, heap_alloc_new]; rfl
theorem tdiv_100 {z : Int} (h : -9223372036854775808 ≤ z ∧ z ≤ 9223372036854775807) : -9223372036854775808 ≤ z.tdiv 100 ∧ z.tdiv 100 ≤ 9223372036854775807 := by
  have h1 := Int.mul_tdiv_add_tmod z 100
  have h2 := Int.tmod_lt_of_pos z (show (0 : Int) < 100 by decide)
  have h3 := Int.lt_tmod_of_pos z (show (0 : Int) < 100 by decide)
  omega
set_option maxHeartbeats 16000000 in
theorem done (bs : List Addr) (a0 : Int) (a1 : Option Addr) (len1 cap1 : Nat) (z1 : List Int) (a2 : Int) (w : World) (h0 : -9223372036854775808 ≤ a0 ∧ a0 ≤ 9223372036854775807) (hI1 : Is w a1 len1 cap1 z1) (hw1 : ∀ x ∈ z1, (Lit.int .i64 x).wf = true) (hB : Ev w w.heap.size bs seven) :
    Calls Tryz.prog 10 #[.int .i64 a0, .slice a1 len1 cap1, .int .u32 a2] w fun e w' => e = .returned (.bool true) ∧ Below w.heap.size w w' := by
  have HB := hid hB
  have HF := hid (KeepW.first_w bs w (hB.sub (by decide)))
  have HI1 := hid hI1
  have HW1 := hid hw1
  obtain ⟨q3, q4⟩ := hI1.bound
  have HT := hid (show ∃ t : Nat, bits .or .u32 a2 1 = (t : Int) ∧ t < 4294967296 from by
    obtain ⟨t, h1, _, h2⟩ := or_u32 a2 1 (by decide) (by decide)
    exact ⟨t, h1, h2⟩)
  obtain ⟨n, hn⟩ := Int.eq_ofNat_of_zero_le (Int.emod_nonneg a0 (show (40 : Int) ≠ 0 by decide))
  have hn4 : n < 40 := by have := Int.emod_lt_of_pos a0 (show (0 : Int) < 40 by decide); omega
  clear hB hI1 hw1
  go_enter Tryz.func10, Tryz.ntmps10
  go_wp2_with fail
  refine HF.out.mono ?_
  rintro e w1 ⟨rfl, b1⟩
  have HB1 := hid b1
  have HV1 := hid (HB.out.below b1)
  clear b1
  by_cases g3 : 20 < len1
  · have d3 : decide ((20 : Int) < (len1 : Int)) = true := decide_eq_true (by omega)
    go_wp2_with fail
    go_ret
    exact ⟨rfl, HB1.out⟩
  have d3 : decide ((20 : Int) < (len1 : Int)) = false := decide_eq_false (by omega)
  go_wp2_with fail
  refine (number_w a0 40 _ (by decide) (by decide) h0.1 h0.2).mono ?_
  rintro e w' ⟨rfl, rfl⟩
  rw [hn]
  clear hn h0 d3
  have hop := opened8_w bs w1.heap.size 400 w1 (HV1.out.mono HB1.out.size) (Nat.le_refl _) (by decide) (by decide)
  go_wp2_with fail
  refine hop.mono ?_
  rintro e w3 ⟨⟨q, d, s, l, rfl, K3⟩, b3⟩
  have HK3 := hid (show KF bs w1.heap.size s d q l 0 0 w3 from ⟨_, _, _, _, _, _, _, _, FInv.none, by omega, by omega, by omega, by simp, K3⟩)
  have HB3 := hid b3
  clear hop K3 b3
  go_wp2_with fail
  go_loopw [10] (fun iv wr => ∃ j : Nat, j ≤ n ∧ iv = .int .i64 j ∧ KF bs w1.heap.size s d q l j j wr ∧ Below w1.heap.size w1 wr) (fun iv _ => n - (RowKit.intOf iv).toNat)
  case atStart => exact ⟨0, by omega, rfl, HK3.out, HB3.out⟩
  case round =>
    obtain ⟨j, hj, rfl, K, hbr⟩ := hrel
    have HBR := hid hbr
    by_cases hlt : j < n
    · have HKJ := hid K
      clear K hbr
      have g3 : IntKind.u8.wrap (j : Int) = (j : Int) := by rw [IntKind.wrap_u8]; omega
      have bA := (Below.refl wr.heap.size wr).alloc (Nat.le_refl _) (.cells #[.int .u8 9, .int .u8 (j : Int)] 5)
      have hky : Nums .u8 (wr.alloc (.cells #[.int .u8 9, .int .u8 (j : Int)] 5)) (some ⟨wr.heap.size, 0, none⟩) 2 2 [9, j] := bytes2k wr 9 j
      rw [← key2_nat (by omega)] at hky
      have hvy : Nums .u8 ((wr.alloc (.cells #[.int .u8 9, .int .u8 (j : Int)] 5)).alloc (.cells #[.int .u8 (j : Int), .int .u8 5] 5)) (some ⟨wr.heap.size + 1, 0, none⟩) 2 2 (val2 j) := by
        have := bytes2k (wr.alloc (.cells #[.int .u8 9, .int .u8 (j : Int)] 5)) j 5
        rw [show (wr.alloc (.cells #[.int .u8 9, .int .u8 (j : Int)] 5)).heap.size = wr.heap.size + 1 by simp] at this
        exact this
      have bZ := bA.trans (((Below.refl _ (wr.alloc (.cells #[.int .u8 9, .int .u8 (j : Int)] 5))).alloc (Nat.le_refl _) (.cells #[.int .u8 (j : Int), .int .u8 5] 5)).mono bA.size)
      have hpt := (HKJ.out.below bZ).put (by omega) (Nums.below hky ((Below.refl _ _).alloc (Nat.le_refl _) (.cells #[.int .u8 (j : Int), .int .u8 5] 5))) hvy
      have HBZ := hid (HBR.out.trans (bZ.mono HBR.out.size))
      clear hky bA bZ hvy HKJ
      go_wp2_with fail
      refine hpt.mono ?_
      rintro e w4 ⟨rfl, K4, b4⟩
      have HB4 := hid (HBZ.out.trans b4)
      clear hpt b4
      by_cases hm : j % 7 = 6
      · have hm1 : ((j : Int) % 7 == 6) = true := by rw [beq_iff_eq]; omega
        have hco := K4.commit (by omega) (by omega)
        clear K4 hm
        go_wp2_with fail
        refine hco.mono ?_
        rintro e w5 ⟨rfl, K5, b5⟩
        have HK5 := hid K5
        have HB5 := hid (HB4.out.trans b5)
        clear hco K5 b5
        go_wp2_with fail
        go_roundw
        case rel => exact ⟨j + 1, by omega, by go_num, HK5.out, HB5.out⟩
        case measure => simp [RowKit.intOf]; omega
      · have hm1 : ((j : Int) % 7 == 6) = false := by
          rw [beq_eq_false_iff_ne]
          intro e
          exact hm (by omega)
        have HK5 := hid K4.skip
        clear K4 hm
        go_wp2_with fail
        go_roundw
        case rel => exact ⟨j + 1, by omega, by go_num, HK5.out, HB4.out⟩
        case measure => simp [RowKit.intOf]; omega
    · obtain rfl : j = n := by omega
      have hl := K.last (by omega) (by omega)
      clear K hbr hj
      go_wp2_with fail
      refine hl.mono ?_
      rintro e w4 ⟨rfl, ⟨F, Y, nn, c, ep, C, m, D0, S, gs, hFI, hnn, hcc, hee, hLA, hLF, hz, hg1, hg2, hg3, hg4, hg5⟩, b4⟩
      have HB4 := hid (HBR.out.trans b4)
      have HLA := hid (And.intro hLA hLF)
      have HZ := hid hz
      have HG := hid (And.intro hg1 (And.intro hg2 (And.intro hg3 (And.intro hg4 hg5))))
      have HFI := hid hFI
      clear hl b4 hLA hLF hz hg1 hg2 hg3 hg4 hg5 hFI hlt
      go_wp2_with fail
      go_loopw [11] (fun iv wr => ∃ i : Nat, i ≤ len1 ∧ iv = .int .i64 i ∧ ∃ D : Dv, LameAt Y bs wr w1.heap.size 400 (nn + 3 * i) c d (PgOf (gs.map encG)) C ep 0 m D S ∧ PgW.Left 100 S C D (fap D) ∧ Below w1.heap.size w1 wr) (fun iv _ => len1 - (RowKit.intOf iv).toNat)
      case atStart => exact ⟨0, by omega, rfl, D0, HLA.out.1, HLA.out.2, HB4.out⟩
      case round =>
        clear HLA
        obtain ⟨i, hi, rfl, D, hA, hF, hb⟩ := hrel
        have HA := hid hA
        have HFL := hid hF
        have HBW := hid hb
        have hlod := hA.los
        clear hA hF hb
        by_cases hlt : i < len1
        · have hzl : i < z1.length := by rw [HI1.out.len]; exact hlt
          obtain ⟨ab, ao, rfl, hac⟩ := (HI1.out.below HB1.out).at hzl
          have hzf := int_of (HW1.out _ (List.getElem_mem hzl))
          generalize z1[i] = zq at hac hzf
          have hab := World.block_lt_of_cell? _ _ hac
          have HCI := hid (fun (wX : World) (hb : Below w1.heap.size w1 wX) => ((hb.cell (p := ⟨ab, ao + i, none⟩) hab).trans hac : wX.cell? ⟨ab, ao + i, none⟩ = some (.int .i64 zq)))
          have hcell := HCI.out wr HBW.out
          obtain ⟨k, hk⟩ : ∃ k : Nat, zq % 100 = (k : Int) := ⟨(zq % 100).toNat, by omega⟩
          have hk100 : k < 100 := by omega
          have hnu := number_w zq 100 wr (by decide) (by decide) hzf.1 hzf.2
          rw [hk] at hnu
          have hfa1 := faulted_w d w1.heap.size _ m D (k : Int) wr HA.out.at_ (fits_nat (by omega))
          have hfa2 := faulted_w d w1.heap.size _ m D ((k + 100 : Nat) : Int) wr HA.out.at_ (fits_nat (by omega))
          have e2 : ((k + 100 : Nat) : Int) = (k : Int) + 100 := by omega
          have f0 : IntKind.i64.wrap ((k : Int) + 100) = (k : Int) + 100 := by rw [IntKind.wrap_i64]; omega
          have HFP := hid (show fap D k = (D.fa (k : Int) || D.fa ((k + 100 : Nat) : Int)) from rfl)
          rw [e2] at hfa2 HFP
          clear hac hk e2
          go_wp2_with fail
          refine hnu.mono ?_
          rintro e wn ⟨rfl, hwn⟩
          subst wn
          clear hnu
          cases hdn : D.fa (k : Int) with
          | true =>
            rw [hdn] at hfa1
            clear hdn hfa2
            go_wp2_with fail
            refine hfa1.mono ?_
            rintro e wn ⟨rfl, hwn⟩
            subst wn
            clear hfa1
            go_wp2_with fail
            go_roundw
            case rel => exact ⟨i + 1, by omega, by go_num, D, HA.out.mono (by omega) (Nat.le_refl _) (Nat.le_refl _), HFL.out, HBW.out⟩
            case measure => simp [RowKit.intOf]; omega
          | false =>
            rw [hdn] at hfa1 HFP
            clear hdn
            go_wp2_with fail
            refine hfa1.mono ?_
            rintro e wn ⟨rfl, hwn⟩
            subst wn
            clear hfa1
            cases hdn : D.fa ((k : Int) + 100) with
            | true =>
              rw [hdn] at hfa2
              clear hdn
              go_wp2_with fail
              refine hfa2.mono ?_
              rintro e wn ⟨rfl, hwn⟩
              subst wn
              clear hfa2
              go_wp2_with fail
              go_roundw
              case rel => exact ⟨i + 1, by omega, by go_num, D, HA.out.mono (by omega) (Nat.le_refl _) (Nat.le_refl _), HFL.out, HBW.out⟩
              case measure => simp [RowKit.intOf]; omega
            | false =>
              rw [hdn] at hfa2 HFP
              clear hdn
              have HDN := hid (show fap D k = false from HFP.out)
              obtain ⟨r, hr1, hr⟩ := and1 (zq.tdiv 100)
              have f1 : IntKind.i64.wrap (100 * (r : Int)) = 100 * (r : Int) := by rw [IntKind.wrap_i64]; omega
              have f2 : IntKind.i64.wrap ((k : Int) + 100 * (r : Int)) = (k : Int) + 100 * (r : Int) := by rw [IntKind.wrap_i64]; omega
              have e1 : ((k : Int) + 100 * (r : Int)) = ((k + 100 * r : Nat) : Int) := by omega
              have HE1 := hid e1
              have hii : k + 100 * r = k ∨ k + 100 * r = k + GeoW.half 400 := by
                rcases (show r = 0 ∨ r = 1 by omega) with rfl | rfl
                · exact .inl rfl
                · exact .inr rfl
              have HII := hid hii
              have HI2 := hid (fault_i (k := k) (r := r) (i := k + 100 * r) rfl hr1)
              have HWK := hid (HFL.out.w k hk100 HDN.out)
              have h100 := tdiv_100 hzf
              have g100 : IntKind.i64.wrap (zq.tdiv 100) = zq.tdiv 100 := by rw [IntKind.wrap_i64]; omega
              clear e1 hii h100
              go_wp2_with fail
              refine hfa2.mono ?_
              rintro e wn ⟨rfl, hwn⟩
              subst wn
              clear hfa2
              by_cases h3 : zq.tmod 3 = 0
              · have h3b : (zq.tmod 3 == 0) = true := by rw [beq_iff_eq]; exact h3
                have hfa := HA.out.fail (k := k) (i := k + 100 * r) (by omega) (by rw [show GeoW.half 400 = 100 by decide]; exact hk100) HII.out HWK.out
                rw [← HE1.out] at hfa
                clear h3
                go_wp2_with fail
                refine hfa.mono ?_
                rintro e w8 ⟨⟨v8, rfl⟩, A8, b8, kp8⟩
                have HB8 := hid (HBW.out.trans b8)
                rw [HE1.out] at A8
                have HF8 := hid (left_fail HFL.out hk100 HI2.out)
                have HA8 := hid A8
                clear A8 b8 kp8 hfa
                go_wp2_with fail
                go_roundw
                case rel => exact ⟨i + 1, by omega, by go_num, _, HA8.out.mono (by omega) (Nat.le_refl _) (Nat.le_refl _), HF8.out, HB8.out⟩
                case measure => simp [RowKit.intOf]; omega
              · have h3b : (zq.tmod 3 == 0) = false := by rw [beq_eq_false_iff_ne]; exact h3
                have h7 := tdiv_7 hzf
                have hn7 := number_w (zq.tdiv 7) 253 wr (by decide) (by decide) h7.1 h7.2
                obtain ⟨p, hp⟩ : ∃ p : Nat, zq.tdiv 7 % 253 = (p : Int) := ⟨(zq.tdiv 7 % 253).toNat, by omega⟩
                have hp253 : p ≤ 1000 := by omega
                rw [hp] at hn7
                obtain ⟨t, ht, ht1⟩ := HT.out
                have hfa := HA.out.spoil (k := k) (i := k + 100 * r) (by omega) (by rw [show GeoW.half 400 = 100 by decide]; exact hk100) HII.out HWK.out (fun h2 => by rw [show GeoW.half 400 = 100 by decide]; exact HFL.out.sp k h2 HDN.out) (HFL.out.kb _) p t hp253 ht1
                rw [← HE1.out] at hfa
                have g7 : IntKind.i64.wrap (zq.tdiv 7) = zq.tdiv 7 := by rw [IntKind.wrap_i64]; omega
                clear h3 hp h7
                go_wp2_with fail
                refine hn7.mono ?_
                rintro e wn ⟨rfl, hwn⟩
                subst wn
                clear hn7
                go_wp2_with fail
                refine hfa.mono ?_
                rintro e w8 ⟨⟨v8, rfl⟩, A8, b8, kp8⟩
                have HB8 := hid (HBW.out.trans b8)
                rw [HE1.out] at A8
                have HF8 := hid (left_spoil HFL.out hk100 HI2.out (p : Int) t)
                have HA8 := hid A8
                clear A8 b8 kp8 hfa
                go_wp2_with fail
                go_roundw
                case rel => exact ⟨i + 1, by omega, by go_num, _, HA8.out.mono (by omega) (Nat.le_refl _) (Nat.le_refl _), HF8.out, HB8.out⟩
                case measure => simp [RowKit.intOf]; omega
        · obtain rfl : i = len1 := by omega
          have hre := reopenF_w Y bs w1.heap.size 400 _ c d ep 0 C m D S gs wr HA.out HZ.out HG.out.1 HG.out.2.1 HG.out.2.2.1 (by have := HG.out.2.2.2.1; omega) (by omega) (by omega) (by omega) (by omega)
          rw [HG.out.2.2.2.1, HG.out.2.2.2.2] at hre
          clear hlod
          go_wp2_with fail
          refine hre.mono ?_
          rintro e w5 ⟨⟨B', k', l', nk', rfl, hK⟩, b5⟩
          have HB5 := hid (HB1.out.trans ((HBW.out.trans b5).mono HB1.out.size))
          have hln := len_w B' k' l' nk' j F w5 hK
          have HK := hid hK
          clear hre b5 hK
          go_wp2_with fail
          refine hln.mono ?_
          rintro e w6 ⟨rfl, rfl⟩
          clear hln
          go_wp2_with fail
          go_loopw [14] (fun iv wr => ∃ i : Nat, i ≤ j ∧ iv = .int .i64 i ∧ KAt wr B' k' l' nk' F j ∧ Below w.heap.size w wr) (fun iv _ => j - (RowKit.intOf iv).toNat)
          case atStart => exact ⟨0, by omega, rfl, HK.out, HB5.out⟩
          case round =>
            clear HK
            obtain ⟨p, hp, rfl, hK, hb⟩ := hrel
            have HKP := hid hK
            have HBP := hid hb
            by_cases hlt : p < j
            · have g3 : IntKind.u8.wrap (p : Int) = (p : Int) := by rw [IntKind.wrap_u8]; omega
              have bA := (Below.refl wr.heap.size wr).alloc (Nat.le_refl _) (.cells #[.int .u8 9, .int .u8 (p : Int)] 5)
              have hky : Nums .u8 (wr.alloc (.cells #[.int .u8 9, .int .u8 (p : Int)] 5)) (some ⟨wr.heap.size, 0, none⟩) 2 2 [9, p] := bytes2k wr 9 p
              rw [← key2_nat (by omega)] at hky
              have hgt := kget_w B' k' l' nk' F j wr.heap.size 2 (key2 p) (val2 p) _ (hK.below bA) hky (by simp [key2]) (HFI.out.at_ p hlt) (by simp [val2])
              have HBA := hid (And.intro (hb.trans (bA.mono hb.size)) (hK.below bA))
              clear hK hb bA hky
              go_wp2_with fail
              refine hgt.mono ?_
              rintro e w7 ⟨⟨ga, gc, rfl, hgn⟩, b7⟩
              have bA7 := (Below.refl w7.heap.size w7).alloc (Nat.le_refl _) (.cells #[.int .u8 (p : Int), .int .u8 5] 5)
              have hsm := RefW.same_w ga 2 gc (val2 p) (some ⟨w7.heap.size, 0, none⟩) 2 2 [p, 5] _ (hgn.below bA7) (bytes2k w7 p 5)
              rw [show decide (val2 p = [p, 5]) = true from decide_eq_true rfl] at hsm
              have HK7 := hid ((HBA.out.2.below b7).below bA7)
              have HB7 := hid ((HBA.out.1.trans (b7.mono HBA.out.1.size)).trans (bA7.mono (HBA.out.1.trans (b7.mono HBA.out.1.size)).size))
              clear hgt hgn b7 bA7 HBA
              go_wp2_with fail
              refine hsm.mono ?_
              rintro e w8 ⟨rfl, b8⟩
              have HK8 := hid (HK7.out.below b8)
              have HB8 := hid (HB7.out.trans (b8.mono HB7.out.size))
              clear hsm b8
              go_wp2_with fail
              go_roundw
              case rel => exact ⟨p + 1, by omega, by go_num, HK8.out, HB8.out⟩
              case measure => simp [RowKit.intOf]; omega
            · clear hK hb
              go_wp2_with fail
              go_ret
              exact ⟨rfl, HBP.out⟩
theorem walk (a0 : Int) (a1 : Option Addr) (len1 cap1 : Nat) (z1 : List Int) (a2 : Int) (w : World) (hE : Err.All w [1, 0, 6, 2, 5, 4, 3]) (w0 : (Lit.int .i64 a0).wf = true) (w1 : IsRow .i64 w a1 len1 cap1 z1) (w2 : (Lit.int .u32 a2).wf = true) :
    Calls Tryz.prog 10 #[.int .i64 a0, .slice a1 len1 cap1, .int .u32 a2] w fun e w' => e = .returned (.bool true) ∧ Below w.heap.size w w' := by
  obtain ⟨bs, hB⟩ := ev7_of hE
  obtain ⟨l1, hl1, hw1⟩ := is_of w1
  exact done bs a0 a1 len1 cap1 l1 a2 w (int_of w0) hl1 hw1 hB
end Go.Proofs.YtbjfgdahfpfgdaaGreatDoor.keepFaults
