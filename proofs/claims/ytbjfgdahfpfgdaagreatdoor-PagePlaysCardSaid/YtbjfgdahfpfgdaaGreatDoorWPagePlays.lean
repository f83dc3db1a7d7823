/- The walk of PagePlays. -/
import Derived.Test.YtbjfgdahfpfgdaaGreatDoorPagePlaysP14
import Derived.Test.YtbjfgdahfpfgdaaGreatDoorPgBaseP11
import Derived.Test.YtbjfgdahfpfgdaaGreatDoorPgBaseP5
namespace Go.Proofs.YtbjfgdahfpfgdaaGreatDoor.pagePlays
open Go Go.RowKit Go.Maps Go.Proofs.YtbjfgdahfpfgdaaGreatDoor.Mem Go.Proofs.YtbjfgdahfpfgdaaGreatDoor.MapsW Go.Proofs.YtbjfgdahfpfgdaaGreatDoor.SeeW Go.Proofs.YtbjfgdahfpfgdaaGreatDoor.DevG Go.Proofs.YtbjfgdahfpfgdaaGreatDoor.PgP Go.Proofs.YtbjfgdahfpfgdaaGreatDoor.PgW
set_option linter.unusedVariables false
set_option maxRecDepth 100000

set_option maxHeartbeats 16000000 in
theorem done (bs : List Addr) (a0 : Option Addr) (len0 cap0 : Nat) (w : World) (hB : Bs w bs) (hl : len0 ≤ 9223372036854775807) (hd : ∀ i, i < len0 → ∃ b o, a0 = some ⟨b, o, none⟩ ∧ ∃ K N s sl sc l, DoP w b o i K N s sl sc l) :
    Calls Tryz.prog 5 #[.slice a0 len0 cap0] w fun e w' => e = .returned (.bool true) ∧ Below w.heap.size w w' := by
  have HF := hid (first_w bs w (Ev.of_bs hB seven (by decide)))
  have HB := hid hB
  have HD := hid hd
  clear hB hd
  go_enter Tryz.func5, Tryz.ntmps5
  go_wp2_with fail
  refine HF.out.mono ?_
  rintro e w1 ⟨rfl, b1⟩
  have hli := light_w a0 len0 cap0 50 w1 hl (by decide) (fun i hi => by
    obtain ⟨b, o, e, K, N, s, sl, sc, l, h⟩ := HD.out i hi
    exact ⟨b, o, e, K, N, s, sl, sc, l, h.below b1⟩)
  have HB1 := hid b1
  clear b1 hl
  go_wp2_with fail
  refine hli.mono ?_
  rintro e w2 ⟨⟨r, rfl, hr⟩, b2⟩
  cases r with
  | false =>
    have HB2 := hid (HB1.out.trans (b2.mono HB1.out.size))
    clear hli hr b2
    go_wp2_with fail
    go_ret
    exact ⟨rfl, HB2.out⟩
  | true =>
    obtain ⟨hl50, hlt⟩ := hr rfl
    have B2 := HB1.out.trans (b2.mono HB1.out.size)
    have HL := hid (show ∀ i, i < len0 → ∃ b o, a0 = some ⟨b, o, none⟩ ∧ ∃ K N s sl sc l, DoP w2 b o i K N s sl sc l ∧ sl ≤ 300 ∧ ¬ (30 ≤ N ∧ N < 256) from fun i hi => by
      obtain ⟨b, o, e, K, N, s, sl, sc, l, h1, h2, h3⟩ := hlt i hi
      exact ⟨b, o, e, K, N, s, sl, sc, l, h1.below b2, h2, h3⟩)
    have HBS := hid (HB.out.below B2)
    have hop := opened_w bs w2.heap.size 600 w2 (Ev.of_bs (HB.out.below B2) seven (by decide)) (Nat.le_refl _) (by decide) (by decide)
    have HB2 := hid B2
    clear hli hr b2 B2 hlt
    go_wp2_with fail
    refine hop.mono ?_
    rintro e w3 ⟨s, d, rfl, K3, b3⟩
    have HK3 := hid K3
    have HB3 := hid b3
    clear hop K3 b3
    go_upto_region 10 with fail
    have M4 := MdAt.made w3
    have K4 := HK3.out.alloc (.cells Tryz.zeroCells53 53)
    have b4 := (Below.refl w3.heap.size w3).alloc (Nat.le_refl _) (.cells Tryz.zeroCells53 53)
    have hx := HB3.out.size
    have HB4 := hid (HB3.out.trans (b4.mono hx))
    have HX := hid hx
    generalize w3.alloc (.cells Tryz.zeroCells53 53) = w4 at *
    generalize w3.heap.size = x at *
    have HP4 := hid (show Play [x] bs w4 w2.heap.size 600 400 0 s d x Non Non 0 Md0 from ⟨K4, M4, Rel.zero, by simp, hx⟩)
    clear M4 K4 b4 hx
    go_wp2_with fail
    go_loopw [4, 7] (fun sv iv wr => ∃ i : Nat, i ≤ len0 ∧ iv = .int .i64 i ∧ ∃ (s nn c : Nat) (V N : Int → Option (List Nat)) (ep : Nat) (M : Md), sv = ptr s ∧ nn ≤ 1000 + 3000 * i ∧ c ≤ 600 * i ∧ ep ≤ i ∧ Play [x] bs wr w2.heap.size 600 nn c s d x V N ep M ∧ Below w2.heap.size w2 wr) (fun _ iv _ => len0 - (RowKit.intOf iv).toNat)
    case atStart => exact ⟨0, by omega, rfl, s, 400, 0, Non, Non, 0, Md0, rfl, by omega, by omega, by omega, HP4.out, HB4.out⟩
    case round =>
      obtain ⟨i, hi, rfl, s, nn, c, V, N, ep, M, rfl, hnn, hcc, hee, hP, hb⟩ := hrel
      have HP := hid hP
      have HBW := hid hb
      by_cases hlt : i < len0
      · obtain ⟨b, o, rfl, K, Nn, sa, sl, sc, l, hdo, hs300, hnl⟩ := HL.out i hlt
        have hdw := hdo.below hb
        obtain ⟨c0, c1, c2⟩ := (⟨hdw.c0, hdw.c1, hdw.c2⟩ : _ ∧ _ ∧ _)
        have HDW := hid (And.intro hdw hnl)
        clear hP hb hdo hdw hnl
        cases hk5 : (K == 5) with
        | true =>
          have hop := HP.out.st.open_ (by omega) (by omega) (by omega)
          have hmd := HP.out.md
          go_wp2_with fail
          refine hop.mono ?_
          rintro e w5 ⟨⟨s5, rfl, K5⟩, b5, kp5⟩
          have M5 := hmd.kp kp5 (by simp)
          have HB5 := hid (HBW.out.trans b5)
          have HR := hid HP.out.rel.abort
          clear hop hmd b5 kp5
          go_upto_region 18 with fail
          obtain ⟨L1, C1⟩ := M5.wasNow
          have HX5 := hid (And.intro K5 M5)
          have hlo5 := K5.lo
          clear K5 M5
          go_upto_region 19 with (first | (refine wpList_load_mid rfl 50 _ rfl x 30 rfl L1 _ C1.rg Tryz.underlying50 rfl (by rw [C1.len]; exact uA) ?_) | (refine wpList_store_mid rfl 50 _ _ rfl x 0 L1.toArray rfl rfl C1.th (by simpa [C1.len] using uA) C1.one ?_))
          have M6 := C1.md
          have T6 := C1.tn
          generalize w5.setCells x 0 L1 = w6 at *
          have K6 := HX5.out.1.cell HX5.out.2 (by simp) HX.out T6
          obtain ⟨L2, C2⟩ := M6.hadOn
          have HX6 := hid (And.intro K6 (And.intro M6 T6))
          clear K6 M6 T6 C1
          go_upto_region 20 with (first | (refine wpList_load_mid rfl 51 _ rfl x 90 rfl L2 _ C2.rg Tryz.underlying51 rfl (by rw [C2.len]; exact uB) ?_) | (refine wpList_store_mid rfl 51 _ _ rfl x 60 L2.toArray rfl rfl C2.th (by simpa [C2.len] using uB) C2.one ?_))
          have M7 := C2.md
          have T7 := C2.tn
          generalize w6.setCells x 60 L2 = w7 at *
          have K7 := HX6.out.1.cell HX6.out.2.1 (by simp) HX.out T7
          obtain ⟨th3, one3, M8, T8⟩ := M7.noTou
          have HX7 := hid (And.intro K7 (And.intro M7 T7))
          clear K7 M7 T7 C2
          go_upto_region 23 with (refine wpList_store_mid rfl 51 _ _ rfl x 121 (List.replicate 30 (Value.bool false)).toArray rfl rfl th3 (by simpa using uB) one3 ?_)
          generalize w7.setCells x 121 (List.replicate 30 (Value.bool false)) = w8 at *
          have K8 := HX7.out.1.cell HX7.out.2.1 (by simp) HX.out T8
          have tl : ∀ {u v : World}, Turn [x] u v → w2.heap.size ≤ u.heap.size → Below w2.heap.size u v := fun t h => t.below h (fun y hy' => by rw [List.mem_singleton.1 hy']; exact HX.out)
          have z6 := HX6.out.2.2.size
          have z7 := HX7.out.2.2.size
          have HX8 := hid (And.intro K8 (And.intro M8 (((HB5.out.trans (tl HX6.out.2.2 hlo5)).trans (tl HX7.out.2.2 (by omega))).trans (tl T8 (by omega)))))
          clear K8 M8 T8 th3 one3 tl z6 z7
          have hsm := same_w [x] bs w2.heap.size 600 _ _ _ _ _ x _ _ _ w8 w8 HX8.out.1 HX8.out.2.1 HR.out (HBS.out.below HX8.out.2.2)
          go_wp2_with fail
          refine hsm.mono ?_
          rintro e w9 ⟨rfl, b9⟩
          have HP9 := hid (show Play [x] bs w9 w2.heap.size 600 _ _ _ _ x _ _ _ _ from (Play.below ⟨HX8.out.1, HX8.out.2.1, HR.out, by simp, HX.out⟩ b9))
          have HB9 := hid (HX8.out.2.2.trans (b9.mono HX8.out.1.lo))
          clear hsm b9
          go_wp2_with fail
          go_roundw
          case rel => exact ⟨i + 1, by omega, by go_num, _, _, _, _, _, _, _, rfl, by omega, by omega, by omega, HP9.out, HB9.out⟩
          case measure => simp [RowKit.intOf]; omega
        | false =>
          have htd := told_w [x] bs w2.heap.size 600 nn c s d x V N ep M K Nn sa sl sc l wr HP.out (fun w' h => HBS.out.below (HBW.out.trans h)) (by omega) (by omega) (by omega) (by decide) HDW.out.1.nums HDW.out.1.bytes (by have := HDW.out.1.n64; unfold Fits; omega) hs300 HDW.out.2
          go_wp2_with fail
          refine htd.mono ?_
          rintro e w5 ⟨rfl, ⟨nn', c', ep', V', N', M', g1, g2, g3, _, _, P5⟩, b5⟩
          have HX5 := hid (And.intro P5 (HBW.out.trans b5))
          clear htd P5 b5
          have hsm := same_w [x] bs w2.heap.size 600 _ _ _ _ _ x _ _ _ w5 w5 HX5.out.1.st HX5.out.1.md HX5.out.1.rel (HBS.out.below HX5.out.2)
          go_wp2_with fail
          refine hsm.mono ?_
          rintro e w9 ⟨rfl, b9⟩
          have HP9 := hid (show Play [x] bs w9 w2.heap.size 600 _ _ _ _ x _ _ _ _ from (Play.below ⟨HX5.out.1.st, HX5.out.1.md, HX5.out.1.rel, by simp, HX.out⟩ b9))
          have HB9 := hid (HX5.out.2.trans (b9.mono HX5.out.1.st.lo))
          clear hsm b9
          go_wp2_with fail
          go_roundw
          case rel => exact ⟨i + 1, by omega, by go_num, _, _, _, _, _, _, _, rfl, by omega, by omega, by omega, HP9.out, HB9.out⟩
          case measure => simp [RowKit.intOf]; omega
      · have HF := hid (HB2.out.trans (hb.mono HB2.out.size))
        clear hP hb
        go_wp2_with fail
        go_ret
        exact ⟨rfl, HF.out⟩
theorem walk {H : Type} {enc : TypeId × Value → H} (a0 : Option Addr) (len0 cap0 : Nat) (w : World) (hE : Err.All w gl) {fs : Array Field} (he : Tryz.prog.underlying 55 = some (.struct fs)) (w0 : Structs enc Tryz.prog w 0 (fun _ => true) true fs a0 len0 cap0) :
    Calls Tryz.prog 5 #[.slice a0 len0 cap0] w fun e w' => e = .returned (.bool true) ∧ Below w.heap.size w w' := by
  obtain ⟨bs, hbs⟩ := bs_of hE
  have hfs : fs.toList.map (·.type) = [3, 3, 35] := by
    have e := Option.some.inj (he.symm.trans Tryz.underlying55)
    cases e
    rfl
  have hl : len0 ≤ 9223372036854775807 := by
    rcases w0 with ⟨_, h, _⟩ | ⟨a, _, _, h1, h2, _⟩
    · omega
    · unfold maxLen at h2; omega
  exact done bs a0 len0 cap0 w hbs hl fun i hi => dop_at w0 hfs hi
end Go.Proofs.YtbjfgdahfpfgdaaGreatDoor.pagePlays
