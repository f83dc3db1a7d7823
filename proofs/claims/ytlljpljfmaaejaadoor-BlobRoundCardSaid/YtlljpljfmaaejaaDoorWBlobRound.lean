/- The walk of BlobRound. -/
import Derived.Test.YtlljpljfmaaejaaDoorBlobRound
import Derived.Test.YtlljpljfmaaejaaDoorAreaUsed
import Derived.Test.YtlljpljfmaaejaaDoorNumWalk
namespace Go.Proofs.YtlljpljfmaaejaaDoor.blobRound
open Go Go.RowKit Go.Maps Go.Proofs.YtlljpljfmaaejaaDoor.Mem Go.Proofs.YtlljpljfmaaejaaDoor.MapsW Go.Proofs.YtlljpljfmaaejaaDoor.SeeW Go.Proofs.YtlljpljfmaaejaaDoor.DevG Go.Proofs.YtlljpljfmaaejaaDoor.BlobW Go.Proofs.YtlljpljfmaaejaaDoor.Ints
set_option linter.unusedVariables false
set_option maxRecDepth 100000

/-- the place put last; 0: none -/
def lastOf (i : Nat) : Int := if i = 0 then 0 else ((rp (i - 1) : Nat) : Int)
set_option maxHeartbeats 16000000 in
theorem walk (a0 a1 : Int) (w : World) (hE : Err.All w gl) (w0 : (Lit.int .i64 a0).wf = true) (w1 : (Lit.int .i64 a1).wf = true) :
    Calls Tryd.prog 10 #[.int .i64 a0, .int .i64 a1] w fun e w' => e = .returned (.bool true) ∧ Below w.heap.size w w' := by
  obtain ⟨bs, hB⟩ := bs_of hE
  have h0 := int_of w0
  have h1 := int_of w1
  obtain ⟨n, hn⟩ := Int.eq_ofNat_of_zero_le (Int.emod_nonneg a0 (show (400 : Int) ≠ 0 by decide))
  have hn4 : n < 400 := by have := Int.emod_lt_of_pos a0 (show (0 : Int) < 400 by decide); omega
  obtain ⟨g, hg⟩ := Int.eq_ofNat_of_zero_le (Int.emod_nonneg a1 (show (100 : Int) ≠ 0 by decide))
  have hg1 : g < 100 := by have := Int.emod_lt_of_pos a1 (show (0 : Int) < 100 by decide); omega
  clear hE w0 w1
  go_enter Tryd.func10, Tryd.ntmps10
  go_wp2_with fail
  refine (lawfirst_w bs w (Ev.of_bs hB _ (by decide))).mono ?_
  rintro e w1 ⟨rfl, b1⟩
  have HE := hid (Ev.of_bs (hB.below b1) RootW.six (by decide))
  have HB1 := hid b1
  clear hB b1
  go_wp2_with fail
  refine (NumW.number_w a0 400 _ (by decide) (by decide) h0.1 h0.2).mono ?_
  rintro e w' ⟨rfl, rfl⟩
  rw [hn]
  clear hn h0
  go_wp2_with fail
  refine (NumW.number_w a1 100 _ (by decide) (by decide) h1.1 h1.2).mono ?_
  rintro e w' ⟨rfl, rfl⟩
  rw [hg]
  clear hg h1
  go_wp2_with fail
  refine (opened_w 300 w1 (by decide) (by decide)).mono ?_
  rintro e w2 ⟨a, u, q0, rfl, A2, b2⟩
  rw [← rA_zero] at A2
  have H2 := hid A2
  have B2 := hid b2
  clear A2 b2
  go_wp2_with fail
  generalize hG : (g : Int) + 2 = G at *
  have hG0 : G ≠ 0 := by omega
  have hG1 : 2 ≤ G := by omega
  have hG2 : G ≤ 101 := by omega
  clear hG hg1
  go_loopw [8, 9] (fun lv iv wr => ∃ (i c : Nat) (D : Dv) (q : Nat), i ≤ n ∧ c ≤ 148 ∧ c ≤ i ∧ iv = .int .i64 (i : Int) ∧ lv = .int .i64 (lastOf i) ∧ AAt wr w1.heap.size (w1.heap.size + 5) (10 * i) (mp w1.heap.size) D a u q (rA i c) ∧ Okd D i ∧ Below w1.heap.size w1 wr) (fun _ iv _ => n - (RowKit.intOf iv).toNat)
  case atStart => exact ⟨0, 0, _, q0, by omega, by omega, by omega, rfl, rfl, H2.out, Okd.new, B2.out⟩
  case round =>
    clear B2 H2
    obtain ⟨i, c, D, q, hi, hc, hci, rfl, rfl, hA, hD, hb⟩ := hrel
    have HW := hid hb
    by_cases hlt : i < n
    · obtain ⟨v, hv⟩ : ∃ v : Nat, v = i % 256 := ⟨_, rfl⟩
      have hby : IntKind.u8.wrap (i : Int) = (v : Int) := by rw [IntKind.wrap_u8]; omega
      have hvb : Crc.Bytes [v] := by intro x hx; simp at hx; omega
      have hrp := rp_in i
      have hre : (150 : Int) + (i : Int) % 150 = ((rp i : Nat) : Int) := by unfold rp; omega
      have hbn := (Below.refl wr.heap.size wr).alloc (Nat.le_refl _) (.cells #[.int .u8 (v : Int)] 5)
      have hput := put_w _ _ _ _ D a u q _ (rp i) _ 1 1 [v] _ (hA.below hbn) (new1 wr v) hvb (by decide) (by omega) (by rw [hD.calls]; omega) hD.fuse hD.down (by rw [hD.blocks, first_300]; exact rA_last i c) (by rw [hD.blocks]; exact rA_next hc hci)
      unfold Put at hput
      have HD := hid (hD.put ((rp i : Nat) : Int) (Crc.pad_bytes hvb))
      have HR := hid (show (D.put ((rp i : Nat) : Int) (Crc.pad [v])).read ((rp i : Nat) : Int) = some (Crc.pad [v]) by rw [put_read, if_pos rfl])
      have HRU := hid (rA_round hc hci)
      have HO := hid hA.own_lo
      have HBN := hid hbn
      have HVB := hid hvb
      have HUS := hid (rA_used (i := i) (c := c))
      have HSL := hid (Crc.sum_lt (Crc.pad_bytes hvb))
      have HRP := hid hrp
      have HLN := hid (show lastOf (i + 1) = ((rp i : Nat) : Int) by unfold lastOf; rw [if_neg (by omega), Nat.add_sub_cancel])
      generalize D.put ((rp i : Nat) : Int) (Crc.pad [v]) = E at *
      generalize rp i = p at *
      clear hA hD hb hv hbn hvb hrp
      go_wp2_with fail
      refine hput.mono ?_
      rintro e w3 ⟨rfl, A3, T3⟩
      have hsz := T3.size
      have b4 := (Below.refl w3.heap.size w3).alloc (Nat.le_refl _) (.cells #[.int .i64 (p : Int), .int .u32 (Crc.sum (Crc.pad [v]) : Nat)] 68)
      have r4 : cells2 w3.heap.size (.int .i64 (p : Int)) (.int .u32 (Crc.sum (Crc.pad [v]) : Nat)) (w3.alloc (.cells #[.int .i64 (p : Int), .int .u32 (Crc.sum (Crc.pad [v]) : Nat)] 68)) := heap_alloc_new _ _
      have A4 := hid (A3.below b4)
      have B4 := hid ((HW.out.trans (HBN.out.mono HW.out.size)).trans ((T3.below (Nat.le_trans HW.out.size HBN.out.size) HO.out).trans (b4.mono (Nat.le_trans (Nat.le_trans HW.out.size HBN.out.size) hsz))))
      obtain ⟨x0, x1, _, _⟩ := RootW.blk_c r4
      have RO := hid (show w3.heap.size ∉ aown (w1.heap.size + 5) (mp w1.heap.size) a u q from fun e => by have := A3.old _ e; omega)
      have R4 := hid r4
      clear hput A3 T3 b4 r4 hsz HBN
      go_wp2_with fail
      generalize w3.alloc (.cells #[.int .i64 (p : Int), .int .u32 (Crc.sum (Crc.pad [v]) : Nat)] 68) = w4 at *
      generalize w3.heap.size = R at *
      have hg := get_w bs _ _ _ _ E a u q _ (p : Int) (Crc.sum (Crc.pad [v])) w4 A4.out (fits_nat (by have := HRP.out; omega)) HSL.out (HE.out.below B4.out) HD.out.bytes
      rw [HD.out.got (by have := HRP.out; omega) HR.out, if_pos rfl] at hg
      refine hg.mono ?_
      rintro e w5 ⟨⟨g5, gc5, rfl, n5, _⟩, b5⟩
      have A5 := hid (A4.out.below b5)
      have B5 := hid (B4.out.trans (b5.mono B4.out.size))
      have r5 : cells2 R (.int .i64 (p : Int)) (.int .u32 (Crc.sum (Crc.pad [v]) : Nat)) w5 := (b5.block _ (Array.getElem?_eq_some_iff.1 R4.out).1).trans R4.out
      have R5 := hid r5
      have N5 := hid n5
      clear hg n5 b5 r5 A4 B4 R4 x0 x1
      go_wp2_with fail
      have bn := (Below.refl w5.heap.size w5).alloc (Nat.le_refl _) (.cells #[.int .u8 (v : Int)] 5)
      have hfl := full_w _ 1 1 [v] _ (new1 w5 v) (by decide)
      have HBN := hid bn
      clear bn
      refine hfl.mono ?_
      rintro e w6 ⟨g6, gc6, rfl, n6, _, b6⟩
      have b56 := HBN.out.trans (b6.mono HBN.out.size)
      have hsm := RefW.same_w _ 256 gc5 _ _ 256 gc6 _ w6 (N5.out.below b56) n6
      rw [decide_eq_true rfl] at hsm
      have A6 := hid (A5.out.below b56)
      have B6 := hid (B5.out.trans (b56.mono B5.out.size))
      have r6 : cells2 R (.int .i64 (p : Int)) (.int .u32 (Crc.sum (Crc.pad [v]) : Nat)) w6 := (b56.block _ (Array.getElem?_eq_some_iff.1 R5.out).1).trans R5.out
      have R6 := hid r6
      clear hfl n6 b6 b56 r6 A5 B5 R5 N5 HBN
      go_wp2_with fail
      refine hsm.mono ?_
      rintro e w7 ⟨rfl, b7⟩
      have A7 := hid (A6.out.below b7)
      have B7 := hid (B6.out.trans (b7.mono B6.out.size))
      have r7 : cells2 R (.int .i64 (p : Int)) (.int .u32 (Crc.sum (Crc.pad [v]) : Nat)) w7 := (b7.block _ (Array.getElem?_eq_some_iff.1 R6.out).1).trans R6.out
      obtain ⟨x0, x1, _, _⟩ := RootW.blk_c r7
      have hdr := drop_w _ _ _ _ E a u q _ (p : Int) (Crc.sum (Crc.pad [v]) : Nat) w7 A7.out (fits_nat (by have := HRP.out; omega)) HUS.out (by omega)
      rw [HRU.out] at hdr
      clear hsm b7 r7 A6 B6 R6
      go_wp2_with fail
      refine hdr.mono ?_
      rintro e w8 ⟨rfl, A8, T8⟩
      have B8 := hid (B7.out.trans (T8.below B7.out.size HO.out))
      have H8 := hid A8
      have hle := left_w _ _ _ _ E a u q _ w8 A8 (by show 0 ≤ 100000; decide) (by show c + 1 ≤ 100000; omega)
      rw [HD.out.blocks, datas_300, show (rA (i + 1) (c + 1)).nu = 0 from rfl, show (rA (i + 1) (c + 1)).nh = c + 1 from rfl, show ((150 : Nat) : Int) - ((0 : Nat) : Int) - ((c + 1 : Nat) : Int) = ((149 - c : Nat) : Int) by omega] at hle
      clear hdr A8 T8 B7 A7 x0 x1
      cases hgp : ((i : Int) % G == G - 1)
      · go_wp2_with fail
        refine hle.mono ?_
        rintro e w9 ⟨rfl, b9⟩
        have A9 := hid (H8.out.below b9)
        have B9 := hid (B8.out.trans (b9.mono B8.out.size))
        clear hle b9 H8 B8
        by_cases hle2 : c = 148
        · have HC := hid hle2
          have dl : decide (((149 - c : Nat) : Int) < 2) = true := decide_eq_true (by omega)
          clear hle2
          have hdo := done_w _ _ _ _ E a u q _ w9 A9.out
          rw [rA_done] at hdo
          have hmo := trivial
          clear hmo
          go_wp2_with fail
          refine hdo.mono ?_
          rintro e w10 ⟨rfl, A10, T10⟩
          have A11 := hid (A10.mono (n' := 10 * (i + 1)) (by omega))
          have B10 := hid (B9.out.trans (T10.below B9.out.size (fun x hx => by rw [List.mem_singleton.1 hx]; exact HO.out _ List.mem_cons_self)))
          clear hdo A10 T10
          go_wp2_with fail
          go_roundw
          case rel => exact ⟨i + 1, 0, E, _, by omega, by omega, by omega, by go_num, by rw [HLN.out], A11.out, HD.out, B10.out⟩
          case measure => simp [RowKit.intOf]; omega
        · have dl : decide (((149 - c : Nat) : Int) < 2) = false := decide_eq_false (by omega)
          clear HRU
          have A11 := hid (A9.out.mono (n' := 10 * (i + 1)) (by omega))
          go_wp2_with fail
          go_roundw
          case rel => exact ⟨i + 1, c + 1, E, q, by omega, by omega, by omega, by go_num, by rw [HLN.out], A11.out, HD.out, B9.out⟩
          case measure => simp [RowKit.intOf]; omega
      · clear hle
        have hdo := done_w _ _ _ _ E a u q _ w8 H8.out
        rw [rA_done] at hdo
        have hmo := trivial
        clear hmo
        go_wp2_with fail
        refine hdo.mono ?_
        rintro e w10 ⟨rfl, A10, T10⟩
        have A11 := hid (A10.mono (n' := 10 * (i + 1)) (by omega))
        have B10 := hid (B8.out.trans (T10.below B8.out.size (fun x hx => by rw [List.mem_singleton.1 hx]; exact HO.out _ List.mem_cons_self)))
        clear hdo A10 T10
        go_wp2_with fail
        go_roundw
        case rel => exact ⟨i + 1, 0, E, _, by omega, by omega, by omega, by go_num, by rw [HLN.out], A11.out, HD.out, B10.out⟩
        case measure => simp [RowKit.intOf]; omega
    · obtain rfl : i = n := by omega
      have hrA := rA_last i c
      have hbn := (Below.refl wr.heap.size wr).alloc (Nat.le_refl _) (.cells #[.int .u8 1] 5)
      have hlo := low_none _ _ _ _ D a u q _ (some ⟨wr.heap.size, 0, none⟩) 1 1 150 _ (hA.below hbn) (by decide) (by rw [hD.blocks, first_300]; decide) (by decide)
      have HA := hid hA
      have HBN := hid hbn
      have HLL := hid (show i = 0 ∧ lastOf i = 0 ∨ 0 < i ∧ (((i : Nat) : Int) == 0) = false ∧ lastOf i = (150 : Int) + ((i : Int) - 1) % 150 by
        rcases Nat.eq_zero_or_pos i with h | h
        · exact .inl ⟨h, by subst h; rfl⟩
        · refine .inr ⟨h, by rw [beq_eq_false_iff_ne]; omega, ?_⟩
          unfold lastOf rp
          rw [if_neg (by omega)]
          omega)
      clear hA hb hbn hrA
      go_wp2_with fail
      refine hlo.mono ?_
      rintro e w3 ⟨rfl, b3⟩
      have b4 := b3.trans ((Below.refl w3.heap.size w3).alloc (Nat.le_refl _) (.cells #[.int .i64 0, .int .u32 0] 68) |>.mono b3.size)
      have b04 := HBN.out.trans (b4.mono HBN.out.size)
      have A4 := hid (HA.out.below b04)
      have B4 := hid (HW.out.trans (b04.mono HW.out.size))
      have hus := used_w _ _ _ _ D a u q _ _ A4.out (by show 0 ≤ 100000; decide)
      have r4 : cells2 w3.heap.size (.int .i64 0) (.int .u32 0) (w3.alloc (.cells #[.int .i64 0, .int .u32 0] 68)) := heap_alloc_new _ _
      obtain ⟨x0, x1, _, _⟩ := RootW.blk_c r4
      clear hlo b3 b4 b04 r4 HBN HA
      rcases HLL.out with ⟨hi0, hl0⟩ | ⟨hi0, hib, hl0⟩
      · rw [hl0]
        clear hl0
        subst hi0
        go_wp2_with fail
        refine hus.mono ?_
        rintro e w5 ⟨s, cp, ks, rfl, hK, hkl, hI, b5⟩
        have hk0 : ks.length = 0 := hkl
        rw [hk0]
        have B5 := hid (B4.out.trans (b5.mono B4.out.size))
        clear hus hK hkl hI b5 hk0 x0 x1
        go_wp2_with fail
        refine (is_nil w5 0).mono ?_
        rintro e w6 ⟨rfl, b6⟩
        have B6 := hid (B5.out.trans (b6.mono B5.out.size))
        clear b6
        go_wp2_with fail
        go_ret
        exact ⟨rfl, HB1.out.trans (B6.out.mono HB1.out.size)⟩
      · rw [hl0]
        clear hl0
        go_wp2_with fail
        refine hus.mono ?_
        rintro e w5 ⟨s, cp, ks, rfl, hK, hkl, hI, b5⟩
        have hk0 : ks.length = 0 := hkl
        rw [hk0]
        have B5 := hid (B4.out.trans (b5.mono B4.out.size))
        clear hus hK hkl hI b5 hk0 x0 x1
        go_wp2_with fail
        refine (is_nil w5 0).mono ?_
        rintro e w6 ⟨rfl, b6⟩
        have B6 := hid (B5.out.trans (b6.mono B5.out.size))
        clear b6
        go_wp2_with fail
        go_ret
        exact ⟨rfl, HB1.out.trans (B6.out.mono HB1.out.size)⟩
end Go.Proofs.YtlljpljfmaaejaaDoor.blobRound
