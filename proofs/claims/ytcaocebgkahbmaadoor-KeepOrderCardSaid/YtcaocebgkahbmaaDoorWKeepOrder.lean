/- The walk of KeepOrder. -/
import Derived.Test.YtcaocebgkahbmaaDoorKeepOrderP5
namespace Go.Proofs.YtcaocebgkahbmaaDoor.keepOrder
open Go Go.RowKit Go.Maps Go.Proofs.YtcaocebgkahbmaaDoor.Mem Go.Proofs.YtcaocebgkahbmaaDoor.MapsW Go.Proofs.YtcaocebgkahbmaaDoor.DevG Go.Proofs.YtcaocebgkahbmaaDoor.Text Go.Proofs.YtcaocebgkahbmaaDoor.KeepP Go.Proofs.YtcaocebgkahbmaaDoor.RootW Go.Proofs.YtcaocebgkahbmaaDoor.KeepW
set_option linter.unusedVariables false
set_option maxRecDepth 100000

theorem step_cell (w : World) (s : Nat) (hs : s < 5) : ∃ st, st ∈ steps ∧ st ≤ 13 ∧ (w.alloc (.cells #[.int .i64 1, .int .i64 3, .int .i64 7, .int .i64 11, .int .i64 13] 3)).cell? ⟨w.heap.size, s, none⟩ = some (.int .i64 (st : Int)) := by
  match s, hs with
  | 0, _ => exact ⟨1, by decide, by decide, by rw [World.cell?, heap_alloc_new]; rfl⟩
  | 1, _ => exact ⟨3, by decide, by decide, by rw [World.cell?, heap_alloc_new]; rfl⟩
  | 2, _ => exact ⟨7, by decide, by decide, by rw [World.cell?, heap_alloc_new]; rfl⟩
  | 3, _ => exact ⟨11, by decide, by decide, by rw [World.cell?, heap_alloc_new]; rfl⟩
  | 4, _ => exact ⟨13, by decide, by decide, by rw [World.cell?, heap_alloc_new]; rfl⟩
set_option maxHeartbeats 6400000 in
theorem walk (a0 a1 : Int) (w : World) (hE : Err.All w [1, 0, 6, 5, 4, 2, 3]) (w0 : (Lit.int .i64 a0).wf = true) (w1 : (Lit.int .i64 a1).wf = true) :
    Calls Tryd.prog 3 #[.int .i64 a0, .int .i64 a1] w fun e w' => e = .returned (.bool true) ∧ Below w.heap.size w w' := by
  obtain ⟨bs, hB⟩ := ev_of hE
  obtain ⟨p0, p1⟩ := int_of w0
  obtain ⟨q0, q1⟩ := int_of w1
  obtain ⟨n, hn⟩ : ∃ n : Nat, (n : Int) = a0 % 40 := ⟨(a0 % 40).toNat, by omega⟩
  obtain ⟨s, hs⟩ : ∃ s : Nat, (s : Int) = a1 % 5 := ⟨(a1 % 5).toNat, by omega⟩
  have hn40 : n < 40 := by omega
  have hs5 : s < 5 := by omega
  have k0 := fun w => NumW.number_w a0 40 w (by decide) (by decide) p0 p1
  have k1 := fun w => NumW.number_w a1 5 w (by decide) (by decide) q0 q1
  rw [← hn] at k0
  rw [← hs] at k1
  clear hn hs hE
  go_enter Tryd.func3, Tryd.ntmps3
  go_wp2_with fail
  refine (first_w bs w hB).mono ?_
  rintro e w2 ⟨rfl, b2⟩
  have hB2 := hB.below b2
  clear hB
  go_wp2_with fail
  refine (k0 _).mono ?_
  rintro e w' ⟨rfl, rfl⟩
  obtain ⟨st, hst, hst13, hcell⟩ := step_cell w2 s hs5
  have i1 : (0 : Int) ≤ (s : Int) := by omega
  have i2 : (s : Int) < 5 := by omega
  have bA := (Below.refl w2.heap.size w2).alloc (Nat.le_refl _) (.cells #[.int .i64 1, .int .i64 3, .int .i64 7, .int .i64 11, .int .i64 13] 3)
  go_wp2_with fail
  refine (k1 _).mono ?_
  rintro e w' ⟨rfl, rfl⟩
  go_wp2_with fail
  refine (opened_w bs _ ((hB2.below bA).mono (by have := b2.size; have := bA.size; omega))).mono ?_
  rintro e w3 ⟨q, d, l, rfl, K3, b3⟩
  have zA := bA.size
  have z2 := b2.size
  have K3' := K3.mono (show w.heap.size ≤ _ by omega)
  have B3 := (b2.trans (bA.mono z2)).trans (b3.mono (show w.heap.size ≤ _ by omega))
  clear K3 b3 hB2 bA b2 hcell k0 k1 p0 p1 q0 q1
  have IN := hid (Inv.none st)
  go_wp2_with fail
  go_loopw [8] (fun i wr => ∃ (j : Nat) (F : List UInt8 → Option (List Nat)), j ≤ n + 1 ∧ i = .int .i64 j ∧ Inv st F j ∧ KAt wr w.heap.size q l (2 * j) F j ∧ Below w.heap.size w wr) (fun i _ => n + 1 - (intOf i).toNat)
  case atStart => exact ⟨0, _, by omega, rfl, IN.out, K3', B3⟩
  case round =>
    clear IN K3' B3
    obtain ⟨j, F, hj, rfl, hI, hK, hB⟩ := hrel
    by_cases hlt : j < n + 1
    · obtain ⟨c, hc⟩ : ∃ c, c = j * st % 41 := ⟨_, rfl⟩
      obtain ⟨p, hp⟩ : ∃ p, p = j * st := ⟨_, rfl⟩
      have hp5 : p ≤ 520 := by rw [hp]; exact Nat.le_trans (Nat.mul_le_mul (show j ≤ 40 by omega) hst13) (by decide)
      have hc41 : c < 41 := by rw [hc]; exact Nat.mod_lt _ (by decide)
      have m1 : (j : Int) * (st : Int) = (p : Int) := by rw [hp]; simp
      have t1 : Int.tmod (p : Int) 41 = (c : Int) := by rw [hc, ← hp, Int.tmod_eq_emod_of_nonneg (by omega)]; omega
      obtain ⟨hF, hI'⟩ := hI.put hst (show j < 41 by omega) j c
      rw [← hc] at hF hI'
      obtain ⟨u, hu⟩ : ∃ u, u = c / 6 := ⟨_, rfl⟩
      obtain ⟨r, hr⟩ : ∃ r, r = c % 6 := ⟨_, rfl⟩
      have t2 : Int.tdiv (c : Int) 6 = (u : Int) := by rw [hu, Int.tdiv_eq_ediv_of_nonneg (by omega)]; omega
      have t3 : Int.tmod (c : Int) 6 = (r : Int) := by rw [hr, Int.tmod_eq_emod_of_nonneg (by omega)]; omega
      have hu7 : u < 7 := by omega
      have hr6 : r < 6 := by omega
      have e1 : (p : Int) % 41 = (c : Int) := by rw [hc, ← hp]; omega
      have e2 : (c : Int) / 6 = (u : Int) := by rw [hu]; omega
      have e3 : (c : Int) % 6 = (r : Int) := by rw [hr]; omega
      have f1 : IntKind.i64.wrap (p : Int) = (p : Int) := by rw [IntKind.wrap_i64]; omega
      have hKe : KeepP.key c = if r = 0 then [UInt8.ofNat u] else [UInt8.ofNat u, UInt8.ofNat r] := by rw [hu, hr]; rfl
      have hu1 : (UInt8.ofNat u).toNat = u := by simp; omega
      have hr1 : (UInt8.ofNat r).toNat = r := by simp; omega
      clear hp hc hu hr t1 t2 t3
      by_cases hr0 : r = 0
      · have d0 : ((r : Int) == 0) = true := by rw [hr0]; rfl
        rw [if_pos hr0] at hKe
        rw [hKe] at hF hI'
        have n1 : Nums .u8 ((wr.alloc (.cells #[.int .u8 (u : Int), .int .u8 (r : Int)] 5)).alloc (.cells #[.int .u8 (j : Int)] 5)) (some ⟨wr.heap.size, 0, none⟩) 1 2 (KeepP.nat [UInt8.ofNat u]) := by
          have := ((bufd wr u r).below ((Below.refl _ _).alloc (Nat.le_refl _) (.cells #[.int .u8 (j : Int)] 5))).take (m := 1) (by decide)
          rw [show KeepP.nat [UInt8.ofNat u] = [u] by simp only [KeepP.nat, List.map_cons, List.map_nil, hu1]]
          exact this
        clear hr0
        have nb : Below wr.heap.size wr ((wr.alloc (.cells #[.int .u8 (u : Int), .int .u8 (r : Int)] 5)).alloc (.cells #[.int .u8 (j : Int)] 5)) := ((Below.refl _ wr).alloc (Nat.le_refl _) _).alloc (by simp) _
        have n2 : Nums .u8 ((wr.alloc (.cells #[.int .u8 (u : Int), .int .u8 (r : Int)] 5)).alloc (.cells #[.int .u8 (j : Int)] 5)) (some ⟨wr.heap.size + 1, 0, none⟩) 1 1 [j] := by
          have := buf1 (wr.alloc (.cells #[.int .u8 (u : Int), .int .u8 (r : Int)] 5)) j
          rw [show (wr.alloc (.cells #[.int .u8 (u : Int), .int .u8 (r : Int)] 5)).heap.size = wr.heap.size + 1 by simp] at this
          exact this
        have KX := hK.below nb
        clear hI
        go_wp2_with fail
        refine (put_w _ q l (2 * j) _ j wr.heap.size 2 [UInt8.ofNat u] (some ⟨wr.heap.size + 1, 0, none⟩) 1 [j] _ KX n1 (by simp) (by simp) n2 (by simp) (by simp) (by omega)).mono ?_
        rintro e wa ⟨rfl, Ka, ta⟩
        rw [hF] at Ka
        have Ka' : KAt wa w.heap.size q l (2 * j + 1) (updS F [UInt8.ofNat u] (some [j])) (j + 1) := Ka
        have n1a := KX.row ta n1 (by decide)
        have zr := hB.size
        have Ba := (hB.trans (nb.mono zr)).trans (ta.below (lo := w.heap.size) (by have := nb.size; omega) (by simpa using hK.bl))
        have n3 := buf1 wa c
        have nb2 := (Below.refl wa.heap.size wa).alloc (Nat.le_refl _) (.cells #[.int .u8 (c : Int)] 5)
        have KY := Ka'.below nb2
        have n1b := n1a.below nb2
        clear Ka Ka' n1 n1a n2 KX hF
        go_wp2_with fail
        refine (put_w _ q l (2 * j + 1) _ (j + 1) wr.heap.size 2 [UInt8.ofNat u] (some ⟨wa.heap.size, 0, none⟩) 1 [c] _ KY n1b (by simp) (by simp) n3 (by simp) (by simp) (by omega)).mono ?_
        rintro e wb ⟨rfl, Kb, tb⟩
        have Bb := (Ba.trans (nb2.mono Ba.size)).trans (tb.below (lo := w.heap.size) (by have := nb2.size; have := Ba.size; omega) (by simpa using hK.bl))
        rw [updS_same] at Kb
        have Kb' : KAt wb w.heap.size q l (2 * (j + 1)) (updS (updS F [UInt8.ofNat u] (some [j])) [UInt8.ofNat u] (some [c])) (j + 1) := Kb
        clear KY n1b n3 Kb tb ta nb nb2 Ba hB hK
        go_wp2_with fail
        go_roundw
        case rel => exact ⟨j + 1, _, by omega, by go_num, hI', Kb', Bb⟩
        case measure => simp [intOf]; omega
      · have d0 : ((r : Int) == 0) = false := by rw [beq_eq_false_iff_ne]; omega
        rw [if_neg hr0] at hKe
        rw [hKe] at hF hI'
        have n1 : Nums .u8 ((wr.alloc (.cells #[.int .u8 (u : Int), .int .u8 (r : Int)] 5)).alloc (.cells #[.int .u8 (j : Int)] 5)) (some ⟨wr.heap.size, 0, none⟩) 2 2 (KeepP.nat [UInt8.ofNat u, UInt8.ofNat r]) := by
          have := (bufd wr u r).below ((Below.refl _ _).alloc (Nat.le_refl _) (.cells #[.int .u8 (j : Int)] 5))
          rw [show KeepP.nat [UInt8.ofNat u, UInt8.ofNat r] = [u, r] by simp only [KeepP.nat, List.map_cons, List.map_nil, hu1, hr1]]
          exact this
        have nb : Below wr.heap.size wr ((wr.alloc (.cells #[.int .u8 (u : Int), .int .u8 (r : Int)] 5)).alloc (.cells #[.int .u8 (j : Int)] 5)) := ((Below.refl _ wr).alloc (Nat.le_refl _) _).alloc (by simp) _
        have n2 : Nums .u8 ((wr.alloc (.cells #[.int .u8 (u : Int), .int .u8 (r : Int)] 5)).alloc (.cells #[.int .u8 (j : Int)] 5)) (some ⟨wr.heap.size + 1, 0, none⟩) 1 1 [j] := by
          have := buf1 (wr.alloc (.cells #[.int .u8 (u : Int), .int .u8 (r : Int)] 5)) j
          rw [show (wr.alloc (.cells #[.int .u8 (u : Int), .int .u8 (r : Int)] 5)).heap.size = wr.heap.size + 1 by simp] at this
          exact this
        have KX := hK.below nb
        clear hI
        go_wp2_with fail
        refine (put_w _ q l (2 * j) _ j wr.heap.size 2 [UInt8.ofNat u, UInt8.ofNat r] (some ⟨wr.heap.size + 1, 0, none⟩) 1 [j] _ KX n1 (by simp) (by simp) n2 (by simp) (by simp) (by omega)).mono ?_
        rintro e wa ⟨rfl, Ka, ta⟩
        rw [hF] at Ka
        have Ka' : KAt wa w.heap.size q l (2 * j + 1) (updS F [UInt8.ofNat u, UInt8.ofNat r] (some [j])) (j + 1) := Ka
        have n1a := KX.row ta n1 (by decide)
        have zr := hB.size
        have Ba := (hB.trans (nb.mono zr)).trans (ta.below (lo := w.heap.size) (by have := nb.size; omega) (by simpa using hK.bl))
        have n3 := buf1 wa c
        have nb2 := (Below.refl wa.heap.size wa).alloc (Nat.le_refl _) (.cells #[.int .u8 (c : Int)] 5)
        have KY := Ka'.below nb2
        have n1b := n1a.below nb2
        clear Ka Ka' n1 n1a n2 KX hF
        go_wp2_with fail
        refine (put_w _ q l (2 * j + 1) _ (j + 1) wr.heap.size 2 [UInt8.ofNat u, UInt8.ofNat r] (some ⟨wa.heap.size, 0, none⟩) 1 [c] _ KY n1b (by simp) (by simp) n3 (by simp) (by simp) (by omega)).mono ?_
        rintro e wb ⟨rfl, Kb, tb⟩
        have Bb := (Ba.trans (nb2.mono Ba.size)).trans (tb.below (lo := w.heap.size) (by have := nb2.size; have := Ba.size; omega) (by simpa using hK.bl))
        rw [updS_same] at Kb
        have Kb' : KAt wb w.heap.size q l (2 * (j + 1)) (updS (updS F [UInt8.ofNat u, UInt8.ofNat r] (some [j])) [UInt8.ofNat u, UInt8.ofNat r] (some [c])) (j + 1) := Kb
        clear KY n1b n3 Kb tb ta nb nb2 Ba hB hK
        go_wp2_with fail
        go_roundw
        case rel => exact ⟨j + 1, _, by omega, by go_num, hI', Kb', Bb⟩
        case measure => simp [intOf]; omega
    · have hjn : (n : Int) + 1 = (j : Int) := by omega
      have hj1 : 1 ≤ j := by omega
      have hj40 : j ≤ 40 := by omega
      rw [hjn]
      clear hlt hjn hj hn40
      go_wp2_with fail
      refine (scan_w _ q l _ _ F none 0 [] none 0 [] wr hK (by omega) hI.small (Nums.nil _ _) (Nums.nil _ _)).mono ?_
      rintro e w4 ⟨a, cap, L, vs, rfl, hS, hL, hR, hP, b4⟩
      rw [sel_all] at hR hP ⊢
      have B4 := hB.trans (b4.mono hB.size)
      have K4 := hK.below b4
      have HV : vs.length = j := hP.len.trans hL
      have hpos : ∀ x ∈ L, x ≠ [] := fun x hx e => by
        obtain ⟨y, hy⟩ := Option.isSome_iff_exists.1 ((hS.mem x).1 hx)
        have := (hI.small _ _ hy).1
        rw [e] at this
        exact absurd this (by decide)
      have HS := hid hS
      have HP := hid hP
      have HR := hid hR
      have hc1 := hR.2.1
      have hc2 : cap ≤ 9223372036854775807 := hR.2.2.1
      clear hS hP hR b4 hB hK
      rw [hL] at hc1 ⊢
      go_wp2_with fail
      go_loopw [12] (fun i wv => ∃ m : Nat, 1 ≤ m ∧ m ≤ j ∧ i = .int .i64 (m : Int) ∧ Below w4.heap.size w4 wv) (fun i _ => j - (intOf i).toNat)
      case atStart => exact ⟨1, by omega, by omega, rfl, Below.refl _ _⟩
      case round =>
        obtain ⟨m, hm1, hm, rfl, hb⟩ := hrel
        have R5 := Row.below HR.out hb
        have P5 := HP.out.below hb
        by_cases h2 : m < j
        · obtain ⟨k, ik⟩ : ∃ k : Nat, (m : Int) - 1 = (k : Int) := ⟨m - 1, by omega⟩
          have i1 : (0 : Int) ≤ (k : Int) := by omega
          have i2 : (k : Int) < (j : Int) := by omega
          have i3 : (0 : Int) ≤ (m : Int) := by omega
          have i4 : (m : Int) < (j : Int) := by omega
          have iw : IntKind.i64.wrap ((m : Int) - 1) = (k : Int) := by rw [IntKind.wrap_i64]; omega
          have iw2 : IntKind.i64.wrap (k : Int) = (k : Int) := by rw [IntKind.wrap_i64]; omega
          obtain ⟨⟨g0, c0, x0, y0, -⟩, -⟩ := P5.get k (by omega) (by omega)
          obtain ⟨⟨g1, c1, x1, y1, -⟩, -⟩ := P5.get m (by omega) (by omega)
          obtain ⟨b, off, rfl, z0⟩ := R5.2.2.2.2 (k * 2) _ (pc_get vs k (by omega)).1
          obtain ⟨b', off', eb, z1⟩ := R5.2.2.2.2 (m * 2) _ (pc_get vs m (by omega)).1
          cases eb
          rw [x0] at z0
          rw [x1] at z1
          have hlt : RecW.lt (KeepP.nat (L[k]'(by omega))) (KeepP.nat (L[m]'(by omega))) = true := by
            rw [lt_nat, decide_eq_true_eq]
            exact List.pairwise_iff_getElem.1 HS.out.rise k m (by omega) (by omega) (by omega)
          generalize KeepP.nat (L[k]'(by omega)) = l0 at y0 z0 hlt
          generalize KeepP.nat (L[m]'(by omega)) = l1 at y1 z1 hlt
          clear x0 x1 R5 P5 HS HP HR
          go_wp2_with fail
          go_region_held3 (fun w' => w'.cell? ⟨b, off + k * 2, none⟩ = some (.slice (some ⟨g0, 0, none⟩) l0.length c0) ∧ w'.cell? ⟨b, off + m * 2, none⟩ = some (.slice (some ⟨g1, 0, none⟩) l1.length c1)) (first | exact ⟨z0, z1⟩ | exact ⟨v0, v1⟩ | go_keep)
            ((go_at_call 9; refine (RecW.ahead_w _ _ _ l0 _ _ _ l1 _ (Nums.below y0 (below_drewN (Below.refl _ _) _)) (Nums.below y1 (below_drewN (Below.refl _ _) _))).mono ?_; rintro e w5 ⟨rfl, b5⟩; have v0 := kept b5 z0; have v1 := kept b5 z1))
          have hb6 : Below w4.heap.size w4 w5 := hb.trans (((below_drewN (Below.refl _ _) 1).trans b5).mono hb.size)
          clear z0 z1 v0 v1 y0 y1 b5 hb
          go_wp2_with fail
          go_roundw
          case rel => exact ⟨m + 1, by omega, by omega, by go_num, hb6⟩
          case measure => simp [intOf]; omega
        · obtain rfl : m = j := by omega
          clear h2 hm hm1
          obtain ⟨h, hh⟩ : ∃ h, h = m / 2 := ⟨_, rfl⟩
          have e1 : (m : Int) / 2 = (h : Int) := by rw [hh]; omega
          have i1 : (0 : Int) ≤ (h : Int) := by omega
          have i2 : (h : Int) < (m : Int) := by omega
          have hLh : h < L.length := by omega
          have hsub : ((L.length - h : Nat) : Int) = (m : Int) - (h : Int) := by omega
          have hlt1 := sel_lt HS.out.rise hLh (hpos _ (List.getElem_mem hLh))
          have hge1 := sel_ge HS.out.rise hLh
          rw [hL] at hge1 hsub
          obtain ⟨⟨g2, c2, x2, y2, -⟩, -⟩ := P5.get h (by omega) hLh
          obtain ⟨b, off, rfl, z2⟩ := R5.2.2.2.2 (h * 2) _ (pc_get vs h (by omega)).1
          rw [x2] at z2
          have hkl : (KeepP.nat L[h]).length = L[h].length := by unfold KeepP.nat; rw [List.length_map]
          rw [hkl] at z2 y2
          have K5 := K4.below hb
          have B5 := B4.trans (hb.mono B4.size)
          clear x2 R5 P5 HP HR hpos hh K4 B4 hb
          obtain ⟨s2, hs2⟩ : ∃ s2, s2 = L[h] := ⟨_, rfl⟩
          rw [← hs2] at z2 y2 hlt1 hge1
          have HL1 := hid hlt1
          have HG1 := hid hge1
          have HSB := hid hsub
          clear hlt1 hge1 hkl hs2 hLh hsub
          go_wp2_with fail
          refine (scan_w _ q l _ _ F none 0 [] (some ⟨g2, 0, none⟩) c2 s2 _ K5 (by omega) hI.small (Nums.nil _ _) y2).mono ?_
          rintro e w6 ⟨a6, cap6, L6, vs6, rfl, hS6, hL6, -, -, b6⟩
          obtain rfl := KeepW.SKeys.unique hS6 HS.out
          rw [HL1.out]
          have z6 := kept b6 z2
          have K6 := K5.below b6
          have y6 := y2.below b6
          have B6 := B5.trans (b6.mono B5.size)
          clear b6 z2 K5 y2 B5 hL6
          go_wp2_with fail
          refine (scan_w _ q l _ _ F (some ⟨g2, 0, none⟩) c2 s2 none 0 [] w6 K6 (by omega) hI.small y6 (Nums.nil _ _)).mono ?_
          rintro e w7 ⟨a7, cap7, L7, vs7, rfl, hS7, hL7, -, -, b7⟩
          obtain rfl := KeepW.SKeys.unique hS7 hS6
          rw [HG1.out]
          have K7 := K6.below b7
          have B7 := B6.trans (b7.mono B6.size)
          have hsub := HSB.out
          clear b7 K6 y6 B6 hL7 z6
          have hle := len_w _ q l _ _ F w7 K7
          go_wp2_with fail
          refine hle.mono ?_
          rintro e w8 ⟨rfl, rfl⟩
          go_wp2_with fail
          go_ret
          exact ⟨rfl, B7⟩
end Go.Proofs.YtcaocebgkahbmaaDoor.keepOrder
