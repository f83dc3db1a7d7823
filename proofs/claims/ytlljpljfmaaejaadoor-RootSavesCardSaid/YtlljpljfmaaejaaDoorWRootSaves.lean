/- The walk of RootSaves. -/
import Derived.Test.YtlljpljfmaaejaaDoorRootFirst
import Derived.Test.YtlljpljfmaaejaaDoorRootSaves
import Derived.Test.YtlljpljfmaaejaaDoorNumWalk
import Derived.Test.YtlljpljfmaaejaaDoorGDevAsk
import Derived.Test.YtlljpljfmaaejaaDoorDevCrash
import Derived.Test.YtlljpljfmaaejaaDoorDevArm
namespace Go.Proofs.YtlljpljfmaaejaaDoor.rootSaves
open Go Go.RowKit Go.Maps Go.Proofs.YtlljpljfmaaejaaDoor.Mem Go.Proofs.YtlljpljfmaaejaaDoor.MapsW Go.Proofs.YtlljpljfmaaejaaDoor.RootP Go.Proofs.YtlljpljfmaaejaaDoor.SeeW Go.Proofs.YtlljpljfmaaejaaDoor.RefsW Go.Proofs.YtlljpljfmaaejaaDoor.DevG Go.Proofs.YtlljpljfmaaejaaDoor.Ints Go.Proofs.YtlljpljfmaaejaaDoor.RootW
set_option linter.unusedVariables false
set_option maxRecDepth 100000

theorem HH : GeoW.half 300 = 75 := by decide
/-- a list of one's own, new -/
def Listed (w : World) (zs : List Int) (e : Ending) (w' : World) : Prop := (∃ g, e = .returned (.slice (some ⟨g, 0, none⟩) zs.length zs.length) ∧ Is w' (some ⟨g, 0, none⟩) zs.length zs.length zs) ∧ Below w.heap.size w w'
set_option maxHeartbeats 1600000 in
theorem list_w (bx : Nat) (a : Option Addr) (len cap : Nat) (zs : List Int) (i : Nat) (w : World) (hc : w.cell? ⟨bx, 0, none⟩ = some (.slice a len cap)) (hz : Is w a len cap zs) (hw : ∀ x ∈ zs, (Lit.int .i64 x).wf = true) (hl : len ≤ 20) (hi : i ≤ 30) :
    Calls Tryd.prog 68 #[.int .i64 i, .pointer (some ⟨bx, 0, none⟩)] w (Listed w (listOf zs i)) := by
  have hlen := hz.len
  obtain ⟨q1, q2⟩ := hz.bound
  unfold listOf
  by_cases h : i < len
  · have hil : i < zs.length := by omega
    obtain ⟨b0, o0, rfl, hc0⟩ := hz.at hil
    have hx := int_of (hw _ (List.getElem_mem hil))
    have hg : zs.getD i 0 = zs[i] := by rw [List.getD_eq_getElem?_getD, List.getElem?_eq_getElem hil]; rfl
    rw [if_pos hil, hg]
    generalize zs[i] = x at *
    clear hz hw hil hg hlen
    go_enter Tryd.func68, Tryd.ntmps68
    go_wp2_with fail
    refine (NumW.number_w x 5000 _ (by decide) (by decide) hx.1 hx.2).mono ?_
    rintro e w' ⟨rfl, rfl⟩
    go_wp2_with fail
    go_ret
    exact ⟨⟨_, rfl, Row.fresh w #[.int .i64 (x % 5000), .int .i64 i] 3 (0, 0) 2 rfl (by decide)⟩, (Below.refl w.heap.size w).alloc (Nat.le_refl _) _⟩
  · rw [if_neg (by omega)]
    have h' : len ≤ i := by omega
    clear hz hw h hlen
    go_enter Tryd.func68, Tryd.ntmps68
    go_wp2_with fail
    go_ret
    exact ⟨⟨_, rfl, Row.fresh w #[.int .i64 i, .int .i64 7, .int .i64 8] 3 (0, 0) 3 rfl (by decide)⟩, (Below.refl w.heap.size w).alloc (Nat.le_refl _) _⟩
theorem listOf_len (zs : List Int) (i : Nat) : (listOf zs i).length ≤ 3 := by
  unfold listOf
  split <;> simp
/-- the list's root, made -/
theorem madeL (zs : List Int) (i g : Nat) (w : World) (h : Is w (some ⟨g, 0, none⟩) (listOf zs i).length (listOf zs i).length (listOf zs i)) :
    Calls Tryd.prog 70 #[.int .i64 i, .slice (some ⟨g, 0, none⟩) (listOf zs i).length (listOf zs i).length] w (MadeTo w (rs zs i)) :=
  made_w (i : Int) _ _ _ _ w h (by have := listOf_len zs i; omega)

set_option maxHeartbeats 16000000 in
theorem cut_off (a0 a1 : Int) (a2 : Option Addr) (len2 cap2 : Nat) (ps : List Int) (a3 : Option Addr) (len3 cap3 : Nat) (zs : List Int) (bs : List Addr) (w : World) (hB : Bs w bs) (hp : Is w a2 len2 cap2 ps) (hz : Is w a3 len3 cap3 zs) (hzw : ∀ x ∈ zs, (Lit.int .i64 x).wf = true) (h6 : len2 ≤ 6) (h20 : len3 ≤ 20) (h0 : -9223372036854775808 ≤ a0 ∧ a0 ≤ 9223372036854775807) (h1 : -9223372036854775808 ≤ a1 ∧ a1 ≤ 9223372036854775807) (n : Nat) (hn : a0 % 20 = (n : Int)) (hn20 : n < 20) (k : Nat) (hk1 : 1 ≤ k) (hk3 : k ≤ 3) (q : Nat) (hq : a1 % 4 = (q : Int)) (hqk : q + 1 = k) :
    Calls Tryd.prog 13 #[.int .i64 a0, .int .i64 a1, .slice a2 len2 cap2, .slice a3 len3 cap3] w fun e w' => e = .returned (.bool true) ∧ Below w.heap.size w w' := by
  obtain ⟨N, hNn⟩ : ∃ N : Nat, N = n + 1 := ⟨_, rfl⟩
  have hN : (n : Int) + 1 = (N : Int) := by omega
  have hqi : (q : Int) + 1 = ((k : Nat) : Int) := by omega
  have d1 : decide ((6 : Int) < (len2 : Int)) = false := decide_eq_false (by omega)
  have d2 : decide ((20 : Int) < (len3 : Int)) = false := decide_eq_false (by omega)
  have HNN := hid hNn
  have H20 := hid h20
  have HN20 := hid hn20
  have HNI := hid hN
  clear hNn hqk h6 h20 hN
  have bbx := (Below.refl w.heap.size w).alloc (Nat.le_refl _) (.cells #[.slice a3 len3 cap3] 42)
  have bx0 : (w.alloc (.cells #[.slice a3 len3 cap3] 42)).cell? ⟨w.heap.size, 0, none⟩ = some (.slice a3 len3 cap3) := by simp
  have HZW := hid hzw
  have HP0 := hid hp
  have HZ0 := hid hz
  have HBX := hid bbx
  have hBx := hB.below bbx
  have bsz : (w.alloc (.cells #[.slice a3 len3 cap3] 42)).heap.size = w.heap.size + 1 := by simp
  have HBS := hid bsz
  have HB00 := hid hBx
  clear hzw hp hz hB bbx bsz hBx
  go_enter Tryd.func13, Tryd.ntmps13
  go_wp2_with fail
  refine (first_w bs _ (Ev.of_bs HB00.out _ (by decide))).mono ?_
  rintro e w1 ⟨rfl, b1⟩
  replace bx0 := kept b1 bx0
  have HB1 := hid (HBX.out.trans (b1.mono (by rw [HBS.out]; omega)))
  have HE := hid (Ev.of_bs (HB00.out.below b1) six (by decide))
  have HSB := hid (HB00.out.below b1)
  clear b1
  go_wp2_with fail
  refine (NumW.number_w a0 20 _ (by decide) (by decide) h0.1 h0.2).mono ?_
  rintro e w' ⟨rfl, rfl⟩
  rw [hn]
  clear hn h0
  go_wp2_with fail
  refine (new_w 300 w1 (by decide) (by decide)).mono ?_
  rintro e w2 ⟨rfl, h2, b2, z2⟩
  have B2 := hid b2
  have H2 := hid h2
  have HX1 := hid bx0
  clear h2 b2 z2 bx0
  have hBX : ∀ {w' : World}, Below w1.heap.size w1 w' → w'.cell? ⟨w.heap.size, 0, none⟩ = some (.slice a3 len3 cap3) := fun hb => kept hb HX1.out
  have HBXF := hid (fun (w' : World) (hb : Below w1.heap.size w1 w') (i : Nat) (hi : i ≤ 30) => list_w w.heap.size a3 len3 cap3 zs i w' (hBX hb) (HZ0.out.below (HB1.out.trans (hb.mono HB1.out.size))) HZW.out H20.out hi)
  clear hBX
  go_wp2_with fail
  go_loopw [13] (fun iv wr => ∃ (i : Nat) (m : Mp), 1 ≤ i ∧ i ≤ n + 1 ∧ iv = .int .i64 (i : Int) ∧ At wr w1.heap.size (w1.heap.size + 5) (8 * i) m (svs zs (i - 1)) ∧ Below w1.heap.size w1 wr) (fun iv _ => n + 1 - (intOf iv).toNat)
  case atStart => exact ⟨1, _, by omega, by omega, rfl, H2.out.mono (by omega) (Nat.le_refl _), B2.out⟩
  case round =>
    clear B2 H2
    obtain ⟨i, m, i0, i1, rfl, hm, bx⟩ := hrel
    have HW := hid bx
    have HM := hid hm
    have hls := HBXF.out wr bx i (by have := HN20.out; omega)
    by_cases hlt : i ≤ n
    · have SV := hid (Saves.of zs (i - 1) (by have := HN20.out; omega))
      have HSV := hid (show (svs zs (i - 1)).saved 75 i (enc (rs zs i)) = svs zs i by obtain ⟨j, rfl⟩ : ∃ j, i = j + 1 := ⟨i - 1, by omega⟩; rfl)
      have HF := hid (rs_fine zs (i := i) (by omega) (by have := HN20.out; omega))
      clear bx hm
      go_wp2_with fail
      refine hls.mono ?_
      rintro e w3 ⟨⟨g, rfl, hI⟩, b3⟩
      have hmd := madeL zs i g w3 hI
      have B3 := hid (HW.out.trans (b3.mono HW.out.size))
      have M3 := hid (HM.out.below b3)
      clear hls hI b3 HW HM
      go_wp2_with fail
      refine hmd.mono ?_
      rintro e w4 ⟨⟨ar, cr, rfl, hR⟩, b4⟩
      have M4 := M3.out.below b4
      have B4 := hid (B3.out.trans (b4.mono B3.out.size))
      have hs := save_good bs _ _ _ _ _ (rs zs i) ar cr w4 M4 SV.out.idle (HE.out.below B4.out) (by rw [SV.out.blocks]; decide) (by rw [SV.out.blocks]; decide) hR HF.out.g HF.out.s (by have := HN20.out; omega) (by have := SV.out.calls; have := HN20.out; omega)
      rw [SV.out.blocks, HH, (rs_ep zs i).2, HSV.out] at hs
      have HO := hid M4.own_lo
      clear hmd b4 hR M4 M3 B3
      go_wp2_with fail
      refine hs.mono ?_
      rintro e w5 ⟨rfl, m5, h5, t5, _⟩
      have B5 := hid (B4.out.trans (t5.below B4.out.size HO.out))
      have H5 := hid (h5.mono (n' := 8 * (i + 1)) (lo' := w1.heap.size) (by omega) (Nat.le_refl _))
      clear hs h5 t5 HO B4
      go_wp2_with fail
      go_roundw
      case rel => exact ⟨i + 1, m5, by omega, by omega, by go_num, H5.out, B5.out⟩
      case measure => simp [intOf]; omega
    · obtain rfl : i = n + 1 := by omega
      have SV := hid (Saves.of zs n (by have := HN20.out; omega))
      have M0 := hid (show At wr w1.heap.size (w1.heap.size + 5) 200 m (svs zs n) from hm.mono (by have := HN20.out; omega) (Nat.le_refl _))
      rw [← HNN.out] at hls
      have HF := hid (rs_fine zs (i := N) (by rw [HNN.out]; omega) (by have := HN20.out; rw [HNN.out]; omega))
      have HNL := hid (show N ≤ 20 by have := HN20.out; rw [HNN.out]; omega)
      have hN := HNI.out
      clear bx hm HM i0 i1 hlt
      go_wp2_with fail
      refine (NumW.number_w a1 4 _ (by decide) (by decide) h1.1 h1.2).mono ?_
      rintro e w' ⟨rfl, rfl⟩
      rw [hq]
      clear hq h1
      have HSV := hid (show svs zs n = svs zs n from rfl)
      generalize svs zs n = D at *
      have har := arm_w _ _ _ _ D k wr M0.out (by omega)
      have HO := hid M0.out.own_lo
      go_wp2_with fail
      refine har.mono ?_
      rintro e w3 ⟨rfl, h3, t3⟩
      have B3 := hid (HW.out.trans (t3.below HW.out.size (fun x hx => HO.out x (by rw [List.mem_singleton.1 hx]; exact List.mem_cons_self))))
      have M3 := hid h3
      have hls := HBXF.out w3 B3.out N (by have := HNL.out; omega)
      clear har h3 t3 HW M0
      go_wp2_with fail
      refine hls.mono ?_
      rintro e w4 ⟨⟨g, rfl, hI⟩, b4⟩
      have hmd := madeL zs N g w4 hI
      have B4 := hid (B3.out.trans (b4.mono B3.out.size))
      have M4 := hid (M3.out.below b4)
      clear hls hI b4 B3 M3
      go_wp2_with fail
      refine hmd.mono ?_
      rintro e w5 ⟨⟨ar, cr, rfl, hR⟩, b5⟩
      have M5 := M4.out.below b5
      have B5 := hid (B4.out.trans (b5.mono B4.out.size))
      have hsv := save_w bs _ _ _ _ { D with fuse := k } N (rs zs N).rs ar cr w5 M5 (HE.out.below B5.out) (by show 300 ≤ D.blocks; rw [SV.out.blocks]; decide) (by show D.blocks ≤ 6000; rw [SV.out.blocks]; decide) hR HF.out.g HF.out.s (by decide) (by show D.np < 10000; rw [SV.out.idle.np]; decide) (by show D.calls < 900000; have := SV.out.calls; have := HN20.out; omega) (by show k ≤ 1000000; omega)
      rw [show GeoW.half ({ D with fuse := k } : Dv).blocks = 75 by show GeoW.half D.blocks = 75; rw [SV.out.blocks]; exact HH] at hsv
      rw [save_stop SV.out.idle N _ k hk1 hk3] at hsv
      rw [show ({ D with fuse := k } : Dv).np = 0 from SV.out.idle.np] at hsv
      clear hmd b5 hR M5 M4 B4
      go_wp2_with fail
      refine hsv.mono ?_
      rintro e w6 ⟨⟨v6, ⟨xe, hxe, rfl⟩, rfl⟩, p6, hp6, h6, t6⟩
      have B6 := hid (B5.out.trans (t6.below B5.out.size HO.out))
      have M6 := hid h6
      have HXE := hid hxe
      generalize ({ m with p := p6 } : Mp) = m6 at *
      clear hsv h6 t6 hp6 B5 HO hxe
      have hnp : (stop D N (enc (rs zs N)) k).np ≤ 2 := by have := (stop_same D N (enc (rs zs N)) k).2.2.2.2; have := SV.out.idle.np; omega
      have HO6 := hid M6.out.own_lo
      have hcr := crash_w _ _ _ _ (stop D N (enc (rs zs N)) k) a2 len2 cap2 ps w6 M6.out (fun w' t => HP0.out.below (HB1.out.trans ((B6.out.trans (t.below B6.out.size HO6.out)).mono HB1.out.size))) (by omega) (by decide)
      go_wp2_with fail
      refine hcr.mono ?_
      rintro e w7 ⟨rfl, ks, p7, hK, hp7, h7, t7⟩
      have HRE := hid (rest SV.out.idle N HF.out.bytes k hK (zs := ps))
      have hbE : ((stop D N (enc (rs zs N)) k).crash ks ps).blocks = 300 := HRE.out.blocks.trans SV.out.blocks
      have hbest := HRE.out
      rw [HNN.out] at hbest
      have hbest := hid (Rest.best SV.out (by have := HN20.out; omega) hbest)
      rw [← HNN.out] at hbest
      have B7 := hid (B6.out.trans (t7.below B6.out.size HO6.out))
      have M7 := hid h7
      generalize (stop D N (enc (rs zs N)) k).crash ks ps = E at *
      generalize ({ m6 with p := p7 } : Mp) = m7 at *
      clear hcr hK h7 t7 hp7 B6 M6 HO6 hnp
      have hlo := load_w bs _ _ _ _ E w7 M7.out (HE.out.below B7.out) HRE.out.idle.down (by omega) (by omega) HRE.out.idle.bytes
      rw [hbE, HH] at hlo
      have his := fun (w' : World) (hb : Below w1.heap.size w1 w') => is_w bs w' (HSB.out.below hb) 5 xe HXE.out 106
      go_wp2_with fail
      rcases hbest.out with he | ⟨hn1, he⟩ | ⟨hn0, he⟩
      · rw [he] at hlo
        refine hlo.mono ?_
        rintro e w8 ⟨⟨au, cu, rfl, hU⟩, b8⟩
        rw [decide_eq_true (show 0 < (rs zs N).ep by rw [(rs_ep zs N).1]; have := HNN.out; omega)]
        have al := (Below.refl w8.heap.size w8).alloc (Nat.le_refl _) (.cells #[.int .i64 (rs zs N).ep, .slice au (rs zs N).rs.length cu] 98)
        obtain ⟨x0, x1⟩ := new2 w8 (.int .i64 (rs zs N).ep) (.slice au (rs zs N).rs.length cu) 98
        have B9 := hid (B7.out.trans ((b8.trans (al.mono b8.size)).mono B7.out.size))
        have U9 := hid (hU.below al)

        have HE1 := hid he
        clear hlo b8 hU al B7 M7 he
        go_wp2_with fail
        generalize w8.alloc (.cells #[.int .i64 (rs zs N).ep, .slice au (rs zs N).rs.length cu] 98) = w9 at *
        generalize w8.heap.size = R at *
        refine (his w9 B9.out).mono ?_
        rintro e w10 ⟨rfl, b10⟩
        rw [(rs_ep zs N).1] at x0
        replace x0 := kept b10 x0
        replace x1 := kept b10 x1
        have B10 := hid (B9.out.trans (b10.mono B9.out.size))
        have U10 := hid (U9.out.below b10)
        clear his b10 U9 B9
        have hls := fun (w' : World) (hb : Below w10.heap.size w10 w') => HBXF.out w' (B10.out.trans (hb.mono B10.out.size)) N (by have := HN20.out; have := HNL.out; omega)
        have hsm := fun (w' : World) (hb : Below w10.heap.size w10 w') (az : Option Addr) (cz : Nat) (hz : Refs w' az (rs zs N).rs.length cz (rs zs N).rs) => same_w (rs zs N) (rs zs N) au az cu cz w' (U10.out.below hb) hz
        simp only [decide_true] at hsm
        have hmd := fun (g : Nat) (w' : World) (hI : Is w' (some ⟨g, 0, none⟩) (listOf zs N).length (listOf zs N).length (listOf zs N)) => madeL zs N g w' hI
        go_wp2_with fail
        go_region_held3 (fun w' => w'.cell? ⟨R, 0, none⟩ = some (.int .i64 (N : Int)) ∧ w'.cell? ⟨R, 1, none⟩ = some (.slice au (rs zs N).rs.length cu)) (first | exact ⟨x0, x1⟩ | exact ⟨y0, y1⟩ | exact ⟨u0, u1⟩ | exact ⟨v0, v1⟩ | go_keep)
          (first
            | (go_at_call 68; refine (hls _ (Below.refl _ _).drew).mono ?_; rintro e z1 ⟨⟨g1, rfl, hI1⟩, c1⟩; have Z1 := (Below.refl w10.heap.size w10).drew.trans c1; have y0 := kept c1 x0; have y1 := kept c1 x1)
            | (go_at_call 70; refine (hmd g1 _ hI1).mono ?_; rintro e z2 ⟨⟨az, cz, rfl, hRz⟩, c2⟩; have Z2 := Z1.trans (c2.mono Z1.size); have u0 := kept c2 y0; have u1 := kept c2 y1)
            | (go_at_call 73; refine (hsm _ Z2 az cz hRz).mono ?_; rintro e z3 ⟨rfl, c3⟩; have Z3 := Z2.trans (c3.mono Z2.size); have v0 := kept c3 u0; have v1 := kept c3 u1))
        have BF := hid (B10.out.trans (Z3.mono B10.out.size))
        clear hls hsm hmd
        go_wp2_with fail
        go_ret
        exact ⟨rfl, HB1.out.trans (BF.out.mono HB1.out.size)⟩
      · rw [he] at hlo
        refine hlo.mono ?_
        rintro e w8 ⟨⟨au, cu, rfl, hU⟩, b8⟩
        rw [decide_eq_true (show 0 < (rs zs n).ep by rw [(rs_ep zs n).1]; have := HNN.out; omega)]
        have al := (Below.refl w8.heap.size w8).alloc (Nat.le_refl _) (.cells #[.int .i64 (rs zs n).ep, .slice au (rs zs n).rs.length cu] 98)
        obtain ⟨x0, x1⟩ := new2 w8 (.int .i64 (rs zs n).ep) (.slice au (rs zs n).rs.length cu) 98
        have B9 := hid (B7.out.trans ((b8.trans (al.mono b8.size)).mono B7.out.size))
        have U9 := hid (hU.below al)
        have ne1 : (((n : Nat) : Int) != ((N : Nat) : Int)) = true := by rw [bne_iff_ne]; have := HNN.out; omega
        have HE1 := hid he
        clear hlo b8 hU al B7 M7 he
        go_wp2_with fail
        generalize w8.alloc (.cells #[.int .i64 (rs zs n).ep, .slice au (rs zs n).rs.length cu] 98) = w9 at *
        generalize w8.heap.size = R at *
        refine (his w9 B9.out).mono ?_
        rintro e w10 ⟨rfl, b10⟩
        rw [(rs_ep zs n).1] at x0
        replace x0 := kept b10 x0
        replace x1 := kept b10 x1
        have B10 := hid (B9.out.trans (b10.mono B9.out.size))
        have U10 := hid (U9.out.below b10)
        clear his b10 U9 B9
        have hls := fun (w' : World) (hb : Below w10.heap.size w10 w') => HBXF.out w' (B10.out.trans (hb.mono B10.out.size)) n (by have := HN20.out; have := HNL.out; omega)
        have hsm := fun (w' : World) (hb : Below w10.heap.size w10 w') (az : Option Addr) (cz : Nat) (hz : Refs w' az (rs zs n).rs.length cz (rs zs n).rs) => same_w (rs zs n) (rs zs n) au az cu cz w' (U10.out.below hb) hz
        simp only [decide_true] at hsm
        have hmd := fun (g : Nat) (w' : World) (hI : Is w' (some ⟨g, 0, none⟩) (listOf zs n).length (listOf zs n).length (listOf zs n)) => madeL zs n g w' hI
        go_wp2_with fail
        go_region_held3 (fun w' => w'.cell? ⟨R, 0, none⟩ = some (.int .i64 (n : Int)) ∧ w'.cell? ⟨R, 1, none⟩ = some (.slice au (rs zs n).rs.length cu)) (first | exact ⟨x0, x1⟩ | exact ⟨y0, y1⟩ | exact ⟨u0, u1⟩ | exact ⟨v0, v1⟩ | go_keep)
          (first
            | (go_at_call 68; refine (hls _ (Below.refl _ _).drew).mono ?_; rintro e z1 ⟨⟨g1, rfl, hI1⟩, c1⟩; have Z1 := (Below.refl w10.heap.size w10).drew.trans c1; have y0 := kept c1 x0; have y1 := kept c1 x1)
            | (go_at_call 70; refine (hmd g1 _ hI1).mono ?_; rintro e z2 ⟨⟨az, cz, rfl, hRz⟩, c2⟩; have Z2 := Z1.trans (c2.mono Z1.size); have u0 := kept c2 y0; have u1 := kept c2 y1)
            | (go_at_call 73; refine (hsm _ Z2 az cz hRz).mono ?_; rintro e z3 ⟨rfl, c3⟩; have Z3 := Z2.trans (c3.mono Z2.size); have v0 := kept c3 u0; have v1 := kept c3 u1))
        have BF := hid (B10.out.trans (Z3.mono B10.out.size))
        clear hls hsm hmd
        go_wp2_with fail
        go_ret
        exact ⟨rfl, HB1.out.trans (BF.out.mono HB1.out.size)⟩
      · rw [he] at hlo
        refine hlo.mono ?_
        rintro e w8 ⟨⟨au, cu, rfl, hU⟩, b8⟩
        rw [decide_eq_false (show ¬ 0 < (⟨0, []⟩ : Rt).ep by decide)]
        have al := (Below.refl w8.heap.size w8).alloc (Nat.le_refl _) (.cells #[.int .i64 (⟨0, []⟩ : Rt).ep, .slice au (⟨0, []⟩ : Rt).rs.length cu] 98)
        obtain ⟨x0, x1⟩ := new2 w8 (.int .i64 (⟨0, []⟩ : Rt).ep) (.slice au (⟨0, []⟩ : Rt).rs.length cu) 98
        have B9 := hid (B7.out.trans ((b8.trans (al.mono b8.size)).mono B7.out.size))
        have hz0 : decide ((0 : Int) < (n : Int)) = false := decide_eq_false (by omega)
        have HE1 := hid he
        have HN0 := hid hn0
        clear hlo b8 hU al B7 M7 he hn0
        go_wp2_with fail
        refine (his _ B9.out).mono ?_
        rintro e w10 ⟨rfl, b10⟩
        have B10 := hid (B9.out.trans (b10.mono B9.out.size))
        clear his b10 x0 x1 B9
        go_wp2_with fail
        go_quiet (fail)
        go_wp2_with fail
        go_ret
        exact ⟨rfl, HB1.out.trans ((below_drewN B10.out _).mono HB1.out.size)⟩
set_option maxHeartbeats 16000000 in
theorem all_well (a0 a1 : Int) (a2 : Option Addr) (len2 cap2 : Nat) (ps : List Int) (a3 : Option Addr) (len3 cap3 : Nat) (zs : List Int) (bs : List Addr) (w : World) (hB : Bs w bs) (hp : Is w a2 len2 cap2 ps) (hz : Is w a3 len3 cap3 zs) (hzw : ∀ x ∈ zs, (Lit.int .i64 x).wf = true) (h6 : len2 ≤ 6) (h20 : len3 ≤ 20) (h0 : -9223372036854775808 ≤ a0 ∧ a0 ≤ 9223372036854775807) (h1 : -9223372036854775808 ≤ a1 ∧ a1 ≤ 9223372036854775807) (n : Nat) (hn : a0 % 20 = (n : Int)) (hn20 : n < 20)  (q : Nat) (hq : a1 % 4 = (q : Int)) (hqk : q + 1 = 4) :
    Calls Tryd.prog 13 #[.int .i64 a0, .int .i64 a1, .slice a2 len2 cap2, .slice a3 len3 cap3] w fun e w' => e = .returned (.bool true) ∧ Below w.heap.size w w' := by
  obtain ⟨N, hNn⟩ : ∃ N : Nat, N = n + 1 := ⟨_, rfl⟩
  have hN : (n : Int) + 1 = (N : Int) := by omega
  have hqi : (q : Int) + 1 = ((4 : Nat) : Int) := by omega
  have d1 : decide ((6 : Int) < (len2 : Int)) = false := decide_eq_false (by omega)
  have d2 : decide ((20 : Int) < (len3 : Int)) = false := decide_eq_false (by omega)
  have HNN := hid hNn
  have H20 := hid h20
  have HN20 := hid hn20
  have HNI := hid hN
  clear hNn hqk h6 h20 hN
  have bbx := (Below.refl w.heap.size w).alloc (Nat.le_refl _) (.cells #[.slice a3 len3 cap3] 42)
  have bx0 : (w.alloc (.cells #[.slice a3 len3 cap3] 42)).cell? ⟨w.heap.size, 0, none⟩ = some (.slice a3 len3 cap3) := by simp
  have HZW := hid hzw
  have HP0 := hid hp
  have HZ0 := hid hz
  have HBX := hid bbx
  have hBx := hB.below bbx
  have bsz : (w.alloc (.cells #[.slice a3 len3 cap3] 42)).heap.size = w.heap.size + 1 := by simp
  have HBS := hid bsz
  have HB00 := hid hBx
  clear hzw hp hz hB bbx bsz hBx
  go_enter Tryd.func13, Tryd.ntmps13
  go_wp2_with fail
  refine (first_w bs _ (Ev.of_bs HB00.out _ (by decide))).mono ?_
  rintro e w1 ⟨rfl, b1⟩
  replace bx0 := kept b1 bx0
  have HB1 := hid (HBX.out.trans (b1.mono (by rw [HBS.out]; omega)))
  have HE := hid (Ev.of_bs (HB00.out.below b1) six (by decide))
  have HSB := hid (HB00.out.below b1)
  clear b1
  go_wp2_with fail
  refine (NumW.number_w a0 20 _ (by decide) (by decide) h0.1 h0.2).mono ?_
  rintro e w' ⟨rfl, rfl⟩
  rw [hn]
  clear hn h0
  go_wp2_with fail
  refine (new_w 300 w1 (by decide) (by decide)).mono ?_
  rintro e w2 ⟨rfl, h2, b2, z2⟩
  have B2 := hid b2
  have H2 := hid h2
  have HX1 := hid bx0
  clear h2 b2 z2 bx0
  have hBX : ∀ {w' : World}, Below w1.heap.size w1 w' → w'.cell? ⟨w.heap.size, 0, none⟩ = some (.slice a3 len3 cap3) := fun hb => kept hb HX1.out
  have HBXF := hid (fun (w' : World) (hb : Below w1.heap.size w1 w') (i : Nat) (hi : i ≤ 30) => list_w w.heap.size a3 len3 cap3 zs i w' (hBX hb) (HZ0.out.below (HB1.out.trans (hb.mono HB1.out.size))) HZW.out H20.out hi)
  clear hBX
  go_wp2_with fail
  go_loopw [13] (fun iv wr => ∃ (i : Nat) (m : Mp), 1 ≤ i ∧ i ≤ n + 1 ∧ iv = .int .i64 (i : Int) ∧ At wr w1.heap.size (w1.heap.size + 5) (8 * i) m (svs zs (i - 1)) ∧ Below w1.heap.size w1 wr) (fun iv _ => n + 1 - (intOf iv).toNat)
  case atStart => exact ⟨1, _, by omega, by omega, rfl, H2.out.mono (by omega) (Nat.le_refl _), B2.out⟩
  case round =>
    clear B2 H2
    obtain ⟨i, m, i0, i1, rfl, hm, bx⟩ := hrel
    have HW := hid bx
    have HM := hid hm
    have hls := HBXF.out wr bx i (by have := HN20.out; omega)
    by_cases hlt : i ≤ n
    · have SV := hid (Saves.of zs (i - 1) (by have := HN20.out; omega))
      have HSV := hid (show (svs zs (i - 1)).saved 75 i (enc (rs zs i)) = svs zs i by obtain ⟨j, rfl⟩ : ∃ j, i = j + 1 := ⟨i - 1, by omega⟩; rfl)
      have HF := hid (rs_fine zs (i := i) (by omega) (by have := HN20.out; omega))
      clear bx hm
      go_wp2_with fail
      refine hls.mono ?_
      rintro e w3 ⟨⟨g, rfl, hI⟩, b3⟩
      have hmd := madeL zs i g w3 hI
      have B3 := hid (HW.out.trans (b3.mono HW.out.size))
      have M3 := hid (HM.out.below b3)
      clear hls hI b3 HW HM
      go_wp2_with fail
      refine hmd.mono ?_
      rintro e w4 ⟨⟨ar, cr, rfl, hR⟩, b4⟩
      have M4 := M3.out.below b4
      have B4 := hid (B3.out.trans (b4.mono B3.out.size))
      have hs := save_good bs _ _ _ _ _ (rs zs i) ar cr w4 M4 SV.out.idle (HE.out.below B4.out) (by rw [SV.out.blocks]; decide) (by rw [SV.out.blocks]; decide) hR HF.out.g HF.out.s (by have := HN20.out; omega) (by have := SV.out.calls; have := HN20.out; omega)
      rw [SV.out.blocks, HH, (rs_ep zs i).2, HSV.out] at hs
      have HO := hid M4.own_lo
      clear hmd b4 hR M4 M3 B3
      go_wp2_with fail
      refine hs.mono ?_
      rintro e w5 ⟨rfl, m5, h5, t5, _⟩
      have B5 := hid (B4.out.trans (t5.below B4.out.size HO.out))
      have H5 := hid (h5.mono (n' := 8 * (i + 1)) (lo' := w1.heap.size) (by omega) (Nat.le_refl _))
      clear hs h5 t5 HO B4
      go_wp2_with fail
      go_roundw
      case rel => exact ⟨i + 1, m5, by omega, by omega, by go_num, H5.out, B5.out⟩
      case measure => simp [intOf]; omega
    · obtain rfl : i = n + 1 := by omega
      have SV := hid (Saves.of zs n (by have := HN20.out; omega))
      have M0 := hid (show At wr w1.heap.size (w1.heap.size + 5) 200 m (svs zs n) from hm.mono (by have := HN20.out; omega) (Nat.le_refl _))
      rw [← HNN.out] at hls
      have HF := hid (rs_fine zs (i := N) (by rw [HNN.out]; omega) (by have := HN20.out; rw [HNN.out]; omega))
      have HNL := hid (show N ≤ 20 by have := HN20.out; rw [HNN.out]; omega)
      have hN := HNI.out
      clear bx hm HM i0 i1 hlt
      go_wp2_with fail
      refine (NumW.number_w a1 4 _ (by decide) (by decide) h1.1 h1.2).mono ?_
      rintro e w' ⟨rfl, rfl⟩
      rw [hq]
      clear hq h1
      have HSV := hid (show svs zs n = svs zs n from rfl)
      generalize svs zs n = D at *
      have har := arm_w _ _ _ _ D 4 wr M0.out (by omega)
      simp only [Int.cast_ofNat_Int] at har hqi
      have HO := hid M0.out.own_lo
      go_wp2_with fail
      refine har.mono ?_
      rintro e w3 ⟨rfl, h3, t3⟩
      have B3 := hid (HW.out.trans (t3.below HW.out.size (fun x hx => HO.out x (by rw [List.mem_singleton.1 hx]; exact List.mem_cons_self))))
      have M3 := hid h3
      have hls := HBXF.out w3 B3.out N (by have := HNL.out; omega)
      clear har h3 t3 HW M0
      go_wp2_with fail
      refine hls.mono ?_
      rintro e w4 ⟨⟨g, rfl, hI⟩, b4⟩
      have hmd := madeL zs N g w4 hI
      have B4 := hid (B3.out.trans (b4.mono B3.out.size))
      have M4 := hid (M3.out.below b4)
      clear hls hI b4 B3 M3
      go_wp2_with fail
      refine hmd.mono ?_
      rintro e w5 ⟨⟨ar, cr, rfl, hR⟩, b5⟩
      have M5 := M4.out.below b5
      have B5 := hid (B4.out.trans (b5.mono B4.out.size))
      have hsv := save_w bs _ _ _ _ { D with fuse := 4 } N (rs zs N).rs ar cr w5 M5 (HE.out.below B5.out) (by show 300 ≤ D.blocks; rw [SV.out.blocks]; decide) (by show D.blocks ≤ 6000; rw [SV.out.blocks]; decide) hR HF.out.g HF.out.s (by decide) (by show D.np < 10000; rw [SV.out.idle.np]; decide) (by show D.calls < 900000; have := SV.out.calls; have := HN20.out; omega) (by show 4 ≤ 1000000; omega)
      rw [show GeoW.half ({ D with fuse := 4 } : Dv).blocks = 75 by show GeoW.half D.blocks = 75; rw [SV.out.blocks]; exact HH] at hsv
      rw [save_four SV.out.idle N] at hsv
      rw [show ({ D with fuse := 4 } : Dv).np = 0 from SV.out.idle.np] at hsv
      clear hmd b5 hR M5 M4 B4
      go_wp2_with fail
      refine hsv.mono ?_
      rintro e w6 ⟨⟨v6, rfl, rfl⟩, p6, hp6, h6, t6⟩
      have B6 := hid (B5.out.trans (t6.below B5.out.size HO.out))
      have M6 := hid (show At w6 w1.heap.size (w1.heap.size + 5) 208 { m with p := p6 } { D.saved 75 N (enc (rs zs N)) with fuse := 1 } from h6)
      generalize ({ m with p := p6 } : Mp) = m6 at *
      have HSN := SV.out.next (by have := HN20.out; omega)
      rw [← HNN.out] at HSN
      have HS1 := hid (saved_one SV.out.idle 75 HF.out)
      rw [(rs_ep zs N).2] at HS1
      have HSN := hid HSN
      clear hsv h6 t6 hp6 B5 HO
      have HO6 := hid M6.out.own_lo
      generalize D.saved 75 N (enc (rs zs N)) = E at *
      have hcr := crash_w _ _ _ _ { E with fuse := 1 } a2 len2 cap2 ps w6 M6.out (fun w' t => HP0.out.below (HB1.out.trans ((B6.out.trans (t.below B6.out.size HO6.out)).mono HB1.out.size))) (by show E.np ≤ 1000; rw [HSN.out.idle.np]; decide) (by decide)
      go_wp2_with fail
      refine hcr.mono ?_
      rintro e w7 ⟨rfl, ks, p7, hK, hp7, h7, t7⟩
      rw [crash_idle HSN.out.idle 1 hK] at h7
      have B7 := hid (B6.out.trans (t7.below B6.out.size HO6.out))
      have M7 := hid h7
      generalize ({ m6 with p := p7 } : Mp) = m7 at *
      clear hcr hK h7 t7 hp7 B6 M6 HO6
      have hbE := HSN.out.blocks
      have HBE := hid (HSN.out.best (by rw [HNN.out]; omega) (by have := HNL.out; omega))
      have HCP := hid (show copies E 75 N = 2 by have := copies_two (D := E) (H := 75) HF.out (by rw [(rs_ep zs N).2, HS1.out]; exact if_pos (.inl rfl)) (by rw [(rs_ep zs N).2, HS1.out]; exact if_pos (.inr rfl)); rw [(rs_ep zs N).2] at this; exact this)
      have hlo := load_w bs _ _ _ _ E w7 M7.out (HE.out.below B7.out) HSN.out.idle.down (by omega) (by omega) HSN.out.idle.bytes
      rw [hbE, HH, HBE.out] at hlo
      go_wp2_with fail
      refine hlo.mono ?_
      rintro e w8 ⟨⟨au, cu, rfl, hU⟩, b8⟩
      rw [decide_eq_true HF.out.ep.1]
      have al := (Below.refl w8.heap.size w8).alloc (Nat.le_refl _) (.cells #[.int .i64 (rs zs N).ep, .slice au (rs zs N).rs.length cu] 98)
      obtain ⟨x0, x1⟩ := new2 w8 (.int .i64 (rs zs N).ep) (.slice au (rs zs N).rs.length cu) 98
      have B9 := hid (B7.out.trans ((b8.trans (al.mono b8.size)).mono B7.out.size))
      have M9 := hid ((M7.out.below b8).below al)
      have U9 := hid (hU.below al)
      clear hlo b8 hU al B7 M7
      go_wp2_with fail
      generalize w8.alloc (.cells #[.int .i64 (rs zs N).ep, .slice au (rs zs N).rs.length cu] 98) = w9 at *
      generalize w8.heap.size = R at *
      rw [(rs_ep zs N).1] at x0
      have hco := copies_w bs _ _ _ _ E w9 M9.out (HE.out.below B9.out) HSN.out.idle.down (by omega) (by omega) HSN.out.idle.bytes N (by rw [hbE, HH, HBE.out]; rfl) (by have := HNN.out; omega) (by have := HNL.out; omega)
      rw [hbE, HH, HCP.out] at hco
      simp only [Int.cast_ofNat_Int] at hco
      refine hco.mono ?_
      rintro e w10 ⟨rfl, b10⟩
      replace x0 := kept b10 x0
      replace x1 := kept b10 x1
      have B10 := hid (B9.out.trans (b10.mono B9.out.size))
      have U10 := hid (U9.out.below b10)
      clear hco b10 U9 M9 B9
      have hls := fun (w' : World) (hb : Below w10.heap.size w10 w') => HBXF.out w' (B10.out.trans (hb.mono B10.out.size)) N (by have := HNL.out; omega)
      have hsm := fun (w' : World) (hb : Below w10.heap.size w10 w') (az : Option Addr) (cz : Nat) (hz : Refs w' az (rs zs N).rs.length cz (rs zs N).rs) => same_w (rs zs N) (rs zs N) au az cu cz w' (U10.out.below hb) hz
      simp only [decide_true] at hsm
      have hwN : IntKind.i64.wrap (N : Int) = (N : Int) := by rw [IntKind.wrap_i64]; have := HNL.out; omega
      have hmd := fun (g : Nat) (w' : World) (hI : Is w' (some ⟨g, 0, none⟩) (listOf zs N).length (listOf zs N).length (listOf zs N)) => madeL zs N g w' hI
      go_wp2_with fail
      go_region_held3 (fun w' => w'.cell? ⟨R, 0, none⟩ = some (.int .i64 (N : Int)) ∧ w'.cell? ⟨R, 1, none⟩ = some (.slice au (rs zs N).rs.length cu)) (first | exact ⟨x0, x1⟩ | exact ⟨y0, y1⟩ | exact ⟨u0, u1⟩ | exact ⟨v0, v1⟩ | go_keep)
        (first
          | (go_at_call 68; refine (hls _ (Below.refl _ _).drew).mono ?_; rintro e z1 ⟨⟨g1, rfl, hI1⟩, c1⟩; have Z1 := (Below.refl w10.heap.size w10).drew.trans c1; have y0 := kept c1 x0; have y1 := kept c1 x1)
          | (go_at_call 70; refine (hmd g1 _ hI1).mono ?_; rintro e z2 ⟨⟨az, cz, rfl, hRz⟩, c2⟩; have Z2 := Z1.trans (c2.mono Z1.size); have u0 := kept c2 y0; have u1 := kept c2 y1)
          | (go_at_call 73; refine (hsm _ Z2 az cz hRz).mono ?_; rintro e z3 ⟨rfl, c3⟩; have Z3 := Z2.trans (c3.mono Z2.size); have v0 := kept c3 u0; have v1 := kept c3 u1))
      have BF := hid (B10.out.trans (Z3.mono B10.out.size))
      clear hls hsm hmd
      go_wp2_with fail
      go_ret
      exact ⟨rfl, HB1.out.trans (BF.out.mono HB1.out.size)⟩
set_option maxHeartbeats 4000000 in
/-- too many picks, or numbers -/
theorem many (a0 a1 : Int) (a2 : Option Addr) (len2 cap2 : Nat) (ps : List Int) (a3 : Option Addr) (len3 cap3 : Nat) (zs : List Int) (bs : List Addr) (w : World) (hB : Bs w bs) (hp : Is w a2 len2 cap2 ps) (hz : Is w a3 len3 cap3 zs) (h0 : -9223372036854775808 ≤ a0 ∧ a0 ≤ 9223372036854775807) (hm : 6 < len2 ∨ len2 ≤ 6 ∧ 20 < len3) :
    Calls Tryd.prog 13 #[.int .i64 a0, .int .i64 a1, .slice a2 len2 cap2, .slice a3 len3 cap3] w fun e w' => e = .returned (.bool true) ∧ Below w.heap.size w w' := by
  have bbx := (Below.refl w.heap.size w).alloc (Nat.le_refl _) (.cells #[.slice a3 len3 cap3] 42)
  have bx0 : (w.alloc (.cells #[.slice a3 len3 cap3] 42)).cell? ⟨w.heap.size, 0, none⟩ = some (.slice a3 len3 cap3) := by simp
  have hBx := hB.below bbx
  have bsz : (w.alloc (.cells #[.slice a3 len3 cap3] 42)).heap.size = w.heap.size + 1 := by simp
  have HBS := hid bsz
  have HBX := hid bbx
  have HB00 := hid hBx
  clear hp hz hB bbx bsz hBx
  rcases hm with h | ⟨h, h'⟩
  · have d1 : decide ((6 : Int) < (len2 : Int)) = true := decide_eq_true (by omega)
    go_enter Tryd.func13, Tryd.ntmps13
    go_wp2_with fail
    refine (first_w bs _ (Ev.of_bs HB00.out _ (by decide))).mono ?_
    rintro e w1 ⟨rfl, b1⟩
    have HB1 := hid (HBX.out.trans (b1.mono (by rw [HBS.out]; omega)))
    go_wp2_with fail
    refine (NumW.number_w a0 20 _ (by decide) (by decide) h0.1 h0.2).mono ?_
    rintro e w' ⟨rfl, rfl⟩
    go_wp2_with fail
    go_ret
    exact ⟨rfl, HB1.out⟩
  · have d1 : decide ((6 : Int) < (len2 : Int)) = false := decide_eq_false (by omega)
    have d2 : decide ((20 : Int) < (len3 : Int)) = true := decide_eq_true (by omega)
    go_enter Tryd.func13, Tryd.ntmps13
    go_wp2_with fail
    refine (first_w bs _ (Ev.of_bs HB00.out _ (by decide))).mono ?_
    rintro e w1 ⟨rfl, b1⟩
    replace bx0 := kept b1 bx0
    have HB1 := hid (HBX.out.trans (b1.mono (by rw [HBS.out]; omega)))
    go_wp2_with fail
    refine (NumW.number_w a0 20 _ (by decide) (by decide) h0.1 h0.2).mono ?_
    rintro e w' ⟨rfl, rfl⟩
    go_wp2_with fail
    go_ret
    exact ⟨rfl, HB1.out⟩
theorem walk (a0 a1 : Int) (a2 : Option Addr) (len2 cap2 : Nat) (z2 : List Int) (a3 : Option Addr) (len3 cap3 : Nat) (z3 : List Int) (w : World) (hE : Err.All w gl) (w0 : (Lit.int .i64 a0).wf = true) (w1 : (Lit.int .i64 a1).wf = true) (w2 : IsRow .i64 w a2 len2 cap2 z2) (w3 : IsRow .i64 w a3 len3 cap3 z3) :
    Calls Tryd.prog 13 #[.int .i64 a0, .int .i64 a1, .slice a2 len2 cap2, .slice a3 len3 cap3] w fun e w' => e = .returned (.bool true) ∧ Below w.heap.size w w' := by
  obtain ⟨bs, hB⟩ := bs_of hE
  obtain ⟨ps, hp, _⟩ := is_of w2
  obtain ⟨zs, hz, hzw⟩ := is_of w3
  have h0 := int_of w0
  have h1 := int_of w1
  by_cases hm : 6 < len2 ∨ len2 ≤ 6 ∧ 20 < len3
  · exact many a0 a1 a2 len2 cap2 ps a3 len3 cap3 zs bs w hB hp hz h0 hm
  · obtain ⟨n, hn⟩ := Int.eq_ofNat_of_zero_le (Int.emod_nonneg a0 (show (20 : Int) ≠ 0 by decide))
    have hn20 : n < 20 := by have := Int.emod_lt_of_pos a0 (show (0 : Int) < 20 by decide); omega
    obtain ⟨q, hq⟩ := Int.eq_ofNat_of_zero_le (Int.emod_nonneg a1 (show (4 : Int) ≠ 0 by decide))
    have hq4 : q < 4 := by have := Int.emod_lt_of_pos a1 (show (0 : Int) < 4 by decide); omega
    by_cases h3 : q = 3
    · exact all_well a0 a1 a2 len2 cap2 ps a3 len3 cap3 zs bs w hB hp hz hzw (by omega) (by omega) h0 h1 n hn hn20 q hq (by omega)
    · exact cut_off a0 a1 a2 len2 cap2 ps a3 len3 cap3 zs bs w hB hp hz hzw (by omega) (by omega) h0 h1 n hn hn20 (q + 1) (by omega) (by omega) q hq rfl
end Go.Proofs.YtlljpljfmaaejaaDoor.rootSaves
