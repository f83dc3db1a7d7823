/- The walk of PageNothing. -/
import Derived.Test.YtbjfgdahfpfgdaaGreatDoorPgBaseP11
import Derived.Test.YtbjfgdahfpfgdaaGreatDoorPgBaseP5
namespace Go.Proofs.YtbjfgdahfpfgdaaGreatDoor.pageNothing
open Go Go.RowKit Go.Maps Go.Proofs.YtbjfgdahfpfgdaaGreatDoor.Mem Go.Proofs.YtbjfgdahfpfgdaaGreatDoor.MapsW Go.Proofs.YtbjfgdahfpfgdaaGreatDoor.SeeW Go.Proofs.YtbjfgdahfpfgdaaGreatDoor.DevG Go.Proofs.YtbjfgdahfpfgdaaGreatDoor.PgP Go.Proofs.YtbjfgdahfpfgdaaGreatDoor.PgW
set_option linter.unusedVariables false
set_option maxRecDepth 100000

set_option maxHeartbeats 1600000 in
theorem over (a0 : Int) (a1 : Option Addr) (len1 cap1 : Nat) (l : List Nat) (w : World) (bs : List Addr) (hB : Bs w bs) (hl : Nums .u8 w a1 len1 cap1 l) (h : len1 < 1 ∨ 248 < len1) :
    Calls Tryz.prog 6 #[.int .i64 a0, .slice a1 len1 cap1] w fun e w' => e = .returned (.bool true) ∧ Below w.heap.size w w' := by
  have hbd := hl.bound
  have HF := hid (first_w bs w (Ev.of_bs hB seven (by decide)))
  clear hB hl
  rcases h with h | h
  · have hd : decide ((len1 : Int) < 1) = true := decide_eq_true (by omega)
    go_enter Tryz.func6, Tryz.ntmps6
    go_wp2_with fail
    refine HF.out.mono ?_
    rintro e w1 ⟨rfl, b1⟩
    have HB := hid b1
    clear b1
    go_wp2_with fail
    go_ret
    exact ⟨rfl, HB.out⟩
  · have hd : decide ((len1 : Int) < 1) = false := decide_eq_false (by omega)
    have hd2 : decide ((248 : Int) < (len1 : Int)) = true := decide_eq_true (by omega)
    go_enter Tryz.func6, Tryz.ntmps6
    go_wp2_with fail
    refine HF.out.mono ?_
    rintro e w1 ⟨rfl, b1⟩
    have HB := hid b1
    clear b1
    go_wp2_with fail
    go_ret
    exact ⟨rfl, HB.out⟩
set_option maxHeartbeats 6400000 in
theorem done (a0 : Int) (a1 : Option Addr) (len1 cap1 : Nat) (l : List Nat) (w : World) (bs : List Addr) (hB : Bs w bs) (hl : Nums .u8 w a1 len1 cap1 l) (hx : Crc.Bytes l) (h1 : 1 ≤ len1) (h2 : len1 ≤ 248) (h0 : -9223372036854775808 ≤ a0 ∧ a0 ≤ 9223372036854775807) :
    Calls Tryz.prog 6 #[.int .i64 a0, .slice a1 len1 cap1] w fun e w' => e = .returned (.bool true) ∧ Below w.heap.size w w' := by
  have hbd := hl.bound
  have hlen := hl.len
  obtain ⟨n, hn⟩ := Int.eq_ofNat_of_zero_le (Int.emod_nonneg a0 (show (40 : Int) ≠ 0 by decide))
  have hn4 : n < 40 := by have := Int.emod_lt_of_pos a0 (show (0 : Int) < 40 by decide); omega
  have HF := hid (first_w bs w (Ev.of_bs hB seven (by decide)))
  have HB := hid hB
  have HL := hid (show Nums .u8 w a1 l.length cap1 l by rw [hlen]; exact hl)
  have HY := hid hx
  have d1 : decide ((len1 : Int) < 1) = false := decide_eq_false (by omega)
  have d2 : decide ((248 : Int) < (len1 : Int)) = false := decide_eq_false (by omega)
  obtain rfl : len1 = l.length := hlen.symm
  have hl0 : l ≠ [] := by rintro rfl; simp at h1
  clear hB hl hx hlen
  go_enter Tryz.func6, Tryz.ntmps6
  go_wp2_with fail
  refine HF.out.mono ?_
  rintro e w1 ⟨rfl, b1⟩
  have HB1 := hid b1
  have hop := opened_w bs w.heap.size 500 w1 ((Ev.of_bs HB.out seven (by decide)).below b1) b1.size (by decide) (by decide)
  clear b1
  go_wp2_with fail
  refine (NumW.number_w a0 40 _ (by decide) (by decide) h0.1 h0.2).mono ?_
  rintro e w' ⟨rfl, rfl⟩
  rw [hn]
  clear hn h0
  go_wp2_with fail
  refine hop.mono ?_
  rintro e w2 ⟨s, d, rfl, K2, b2⟩
  have HB2 := hid (HB1.out.trans (b2.mono HB1.out.size))
  have hw := K2.write (by decide) (p := (n : Int)) (isP_of (by omega)) (HL.out.below HB2.out) h1 h2 HY.out
  clear hop K2 b2
  go_wp2_with fail
  refine hw.mono ?_
  rintro e w3 ⟨rfl, K3, b3, _⟩
  have HB3 := hid (HB2.out.trans b3)
  have c0 : cnt (upd Non (n : Int) (some l)) ≠ 0 := cnt_pos (i := (n : Int)) (by omega) (by omega) (by rw [upd_same]; rfl)
  have c1 := cnt_le256 (upd Non (n : Int) (some l))
  have c2 : cnt (view (upd Non (n : Int) (some l)) Non) ≤ 40 := cnt_le fun p hp => by
    rw [view_upd _ _ _ hl0] at hp
    split at hp
    · omega
    · cases hp
  have hco := K3.commit (q := 40) (by omega) (by decide) (by decide) c0 (by decide) c2 (by decide)
  clear hw K3 b3 c0 c2
  go_wp2_with fail
  refine hco.mono ?_
  rintro e w4 ⟨rfl, ⟨c4, hc4, K4⟩, b4, _⟩
  have HB4 := hid (HB3.out.trans b4)
  have hV : ∀ i : Int, view (upd Non (n : Int) (some l)) Non i = if i = (n : Int) then some l else none := fun i => view_upd _ _ _ hl0 i
  generalize view (upd Non (n : Int) (some l)) Non = V at *
  obtain ⟨n4, hn4'⟩ : ∃ n4, n4 = 400 + 1 + 8 * (cnt (upd Non (n : Int) (some l)) + 7) + 700 := ⟨_, rfl⟩
  rw [← hn4'] at K4
  have hn4b : n4 ≤ 5000 := by omega
  have hc4b : c4 ≤ 1000 := by omega
  have HK4 := hid K4
  have ca := K4.calls
  have ep := K4.epoch
  clear hco K4 b4 hn4' hc4 c1
  have h00 : cnt (fun _ : Int => (none : Option (List Nat))) = 0 := by decide
  go_wp2_with fail
  refine ca.mono ?_
  rintro e w5 ⟨rfl, hw5⟩
  subst w5
  go_wp2_with fail
  refine ep.mono ?_
  rintro e w5 ⟨rfl, hw5⟩
  subst w5
  have hc0 := HK4.out.commit0 (by rw [h00]; omega) (by omega) (by decide) h00
  rw [h00] at hc0
  clear ca ep
  go_wp2_with fail
  refine hc0.mono ?_
  rintro e w5 ⟨rfl, K5, b5, _⟩
  have HB5 := hid (HB4.out.trans b5)
  have HK5 := hid K5
  have ca := K5.calls
  have ep := K5.epoch
  clear hc0 K5 b5 HK4
  go_wp2_with fail
  refine ca.mono ?_
  rintro e w6 ⟨rfl, hw5⟩
  subst w6
  go_wp2_with fail
  refine ep.mono ?_
  rintro e w6 ⟨rfl, hw5⟩
  subst w6
  have bA := (Below.refl w5.heap.size w5).alloc (Nat.le_refl _) (.cells #[.int .u8 ((1 : Nat) : Int)] 5)
  have hw := (HK5.out.below bA).write (by omega) (p := (n : Int)) (isP_of (by omega)) (byte1 w5 1) (by decide) (by decide) (by intro x hx; simp at hx; omega)
  have HBA := hid (HB5.out.trans (bA.mono HB5.out.size))
  clear bA ca ep
  go_wp2_with fail
  refine hw.mono ?_
  rintro e w6 ⟨rfl, K6, b6, _⟩
  have HB6 := hid (HBA.out.trans b6)
  have hdr := K6.drop (by omega) (p := (n : Int)) (isP_of (by omega))
  clear hw K6 b6 HK5
  go_wp2_with fail
  refine hdr.mono ?_
  rintro e w7 ⟨rfl, K7, b7, _⟩
  have HB7 := hid (HB6.out.trans b7)
  have f1 : IntKind.i64.wrap ((n : Int) + 1) = ((n + 1 : Nat) : Int) := by rw [IntKind.wrap_i64]; omega
  have hw := K7.write (by omega) (p := ((n + 1 : Nat) : Int)) (isP_of (by omega)) (HL.out.below HB7.out) h1 h2 HY.out
  have HKx := hid K7
  clear hdr K7 b7
  go_wp2_with fail
  refine hw.mono ?_
  rintro e w8 ⟨rfl, K8, b8, _⟩
  have HB8 := hid (HB7.out.trans b8)
  have hab := K8.abort
  clear hw K8 b8 HKx
  go_wp2_with fail
  refine hab.mono ?_
  rintro e w9 ⟨rfl, K9, b9, _⟩
  have HB9 := hid (HB8.out.trans b9)
  have hr1 := K9.read (by omega) (by omega) (p := (n : Int)) (isP_of (by omega))
  rw [show view (fun _ => none) V (n : Int) = some l by show V (n : Int) = _; rw [hV, if_pos rfl]] at hr1
  clear hab K9 b9
  go_wp2_with fail
  refine hr1.mono ?_
  rintro e w10 ⟨⟨a10, cap10, rfl, n10⟩, K10, b10, _, _⟩
  have HB10 := hid (HB9.out.trans b10)
  have hr2 := K10.read (by omega) (by omega) (p := ((n + 1 : Nat) : Int)) (isP_of (by omega))
  rw [show view (fun _ => none) V ((n + 1 : Nat) : Int) = none by show V ((n + 1 : Nat) : Int) = _; rw [hV, if_neg (by omega)]] at hr2
  have hbd10 := n10.bound
  have HN10 := hid n10
  clear hr1 K10 b10 n10
  go_wp2_with fail
  refine hr2.mono ?_
  rintro e w11 ⟨⟨a8, ha8, rfl⟩, K11, b11, b11', _⟩
  have HB11 := hid (HB10.out.trans b11)
  have HK11 := hid K11
  have HN11 := hid (HN10.out.below (b11' (by trivial)))
  have his := is_w bs w11 (HB.out.below HB11.out) 8 a8 ha8 109
  have e109 : ((101 : Int) + ((8 : Nat) : Int) == 109) = true := by decide
  rw [e109] at his
  clear hr2 K11 b11 b11' HN10
  go_wp2_with fail
  refine his.mono ?_
  rintro e w12 ⟨rfl, b12⟩
  have hsm := RefW.same_w a10 l.length cap10 l a1 l.length cap1 l w12 (HN11.out.below b12) (HL.out.below (HB11.out.trans (b12.mono HB11.out.size)))
  rw [decide_eq_true rfl] at hsm
  have HB12 := hid (HB11.out.trans (b12.mono HB11.out.size))
  have HK12 := hid (HK11.out.below b12)
  clear his b12 HK11
  go_wp2_with fail
  refine hsm.mono ?_
  rintro e w13 ⟨rfl, b13⟩
  have HB13 := hid (HB12.out.trans (b13.mono HB12.out.size))
  have K13 := HK12.out.below b13
  have HK13 := hid K13
  have hch := K13.changed
  rw [h00] at hch
  have ca := K13.calls
  have hc0 := K13.commit0 (by rw [h00]; omega) (by omega) (by decide) h00
  rw [h00] at hc0
  clear hsm b13 K13 HK12
  go_wp2_with fail
  refine hch.mono ?_
  rintro e w14 ⟨rfl, hw5⟩
  subst w14
  go_wp2_with fail
  refine ca.mono ?_
  rintro e w14 ⟨rfl, hw5⟩
  subst w14
  go_wp2_with fail
  refine hc0.mono ?_
  rintro e w14 ⟨rfl, K14, b14, _⟩
  have HB14 := hid (HB13.out.trans b14)
  have ca := K14.calls
  clear hc0 K14 b14
  go_wp2_with fail
  refine ca.mono ?_
  rintro e w15 ⟨rfl, hw5⟩
  subst w15
  go_wp2_with fail
  go_ret
  exact ⟨rfl, HB14.out⟩
theorem walk (a0 : Int) (a1 : Option Addr) (len1 cap1 : Nat) (z1 : List Int) (w : World) (hE : Err.All w gl) (w0 : (Lit.int .i64 a0).wf = true) (w1 : IsRow .u8 w a1 len1 cap1 z1) :
    Calls Tryz.prog 6 #[.int .i64 a0, .slice a1 len1 cap1] w fun e w' => e = .returned (.bool true) ∧ Below w.heap.size w w' := by
  obtain ⟨l, hl, hx⟩ := nums_of rfl w1
  obtain ⟨bs, hB⟩ := bs_of hE
  by_cases h : len1 < 1 ∨ 248 < len1
  · exact over a0 a1 len1 cap1 l w bs hB hl h
  · exact done a0 a1 len1 cap1 l w bs hB hl hx (by omega) (by omega) (int_of w0)
end Go.Proofs.YtbjfgdahfpfgdaaGreatDoor.pageNothing
