/- The walk of PageFalls. -/
import Derived.Test.YtbjfgdahfpfgdaaGreatDoorPageFallsP15
import Derived.Test.YtbjfgdahfpfgdaaGreatDoorPageFallsP16
import Derived.Test.YtbjfgdahfpfgdaaGreatDoorPgBaseP11
import Derived.Test.YtbjfgdahfpfgdaaGreatDoorPgBaseP5
namespace Go.Proofs.YtbjfgdahfpfgdaaGreatDoor.pageFalls
open Go Go.RowKit Go.Maps Go.Proofs.YtbjfgdahfpfgdaaGreatDoor.Mem Go.Proofs.YtbjfgdahfpfgdaaGreatDoor.MapsW Go.Proofs.YtbjfgdahfpfgdaaGreatDoor.SeeW Go.Proofs.YtbjfgdahfpfgdaaGreatDoor.DevG Go.Proofs.YtbjfgdahfpfgdaaGreatDoor.PgP Go.Proofs.YtbjfgdahfpfgdaaGreatDoor.PgW Go.Proofs.YtbjfgdahfpfgdaaGreatDoor.Ints Go.Proofs.YtbjfgdahfpfgdaaGreatDoor.NumW
set_option linter.unusedVariables false
set_option maxRecDepth 100000

set_option maxHeartbeats 16000000 in
theorem done (bs : List Addr) (a0 : Option Addr) (len0 cap0 : Nat) (a1 : Option Addr) (len1 cap1 : Nat) (z1 : List Int) (a2 : Option Addr) (len2 cap2 : Nat) (z2 : List Int) (w : World) (hI1 : Is w a1 len1 cap1 z1) (hw1 : ∀ x ∈ z1, (Lit.int .i64 x).wf = true) (hI2 : Is w a2 len2 cap2 z2) (hB : Bs w bs) (hl : len0 ≤ 9223372036854775807) (hd : ∀ i, i < len0 → ∃ b o, a0 = some ⟨b, o, none⟩ ∧ ∃ K N s sl sc l, DoP w b o i K N s sl sc l) :
    Calls Tryz.prog 7 #[.slice a0 len0 cap0, .slice a1 len1 cap1, .slice a2 len2 cap2] w fun e w' => e = .returned (.bool true) ∧ Below w.heap.size w w' := by
  have HF := hid (first_w bs w (Ev.of_bs hB seven (by decide)))
  have HB := hid hB
  have HD := hid hd
  have HI1 := hid hI1
  have HI2 := hid hI2
  have HW1 := hid hw1
  obtain ⟨q1, q2⟩ := hI1.bound
  obtain ⟨q3, q4⟩ := hI2.bound
  clear hB hd hI1 hI2 hw1
  go_enter Tryz.func7, Tryz.ntmps7
  go_wp2_with fail
  refine HF.out.mono ?_
  rintro e w1 ⟨rfl, b1⟩
  have hli := light_w a0 len0 cap0 40 w1 hl (by decide) (fun i hi => by
    obtain ⟨b, o, e, K, N, s, sl, sc, l, h⟩ := HD.out i hi
    exact ⟨b, o, e, K, N, s, sl, sc, l, h.below b1⟩)
  have HB1 := hid b1
  clear b1 hl
  go_wp2_with fail
  refine hli.mono ?_
  rintro e w2 ⟨⟨r, rfl, hr⟩, b2⟩
  cases r with
  | false =>
    have HB2 := hid (HB1.out.trans (b2.mono HB1.out.size))
    clear hli hr b2
    go_wp2_with fail
    go_ret
    exact ⟨rfl, HB2.out⟩
  | true =>
    obtain ⟨hl40, hlt⟩ := hr rfl
    have B2 := HB1.out.trans (b2.mono HB1.out.size)
    have HL := hid (show ∀ i, i < len0 → ∃ b o, a0 = some ⟨b, o, none⟩ ∧ ∃ K N s sl sc l, DoP w2 b o i K N s sl sc l ∧ sl ≤ 300 ∧ ¬ (30 ≤ N ∧ N < 256) from fun i hi => by
      obtain ⟨b, o, e, K, N, s, sl, sc, l, h1, h2, h3⟩ := hlt i hi
      exact ⟨b, o, e, K, N, s, sl, sc, l, h1.below b2, h2, h3⟩)
    have HBS := hid (HB.out.below B2)
    have hop := opened_w bs w2.heap.size 600 w2 (Ev.of_bs (HB.out.below B2) seven (by decide)) (Nat.le_refl _) (by decide) (by decide)
    have HB2 := hid B2
    clear hli hr b2 B2 hlt
    by_cases g1 : 40 < len1
    · have d1 : decide ((40 : Int) < (len1 : Int)) = true := decide_eq_true (by omega)
      clear hop
      go_wp2_with fail
      go_ret
      exact ⟨rfl, HB2.out⟩
    by_cases g2 : 12 < len2
    · have d1 : decide ((40 : Int) < (len1 : Int)) = false := decide_eq_false (by omega)
      have d2 : decide ((12 : Int) < (len2 : Int)) = true := decide_eq_true (by omega)
      clear hop
      go_wp2_with fail
      go_ret
      exact ⟨rfl, HB2.out⟩
    have d1 : decide ((40 : Int) < (len1 : Int)) = false := decide_eq_false (by omega)
    have d2 : decide ((12 : Int) < (len2 : Int)) = false := decide_eq_false (by omega)
    go_wp2_with fail
    refine hop.mono ?_
    rintro e w3 ⟨s, d, rfl, K3, b3⟩
    have HK3 := hid K3
    have HB3 := hid b3
    clear hop K3 b3
    go_upto_region 10 with fail
    have M4 := MdAt.made w3
    have K4 := HK3.out.alloc (.cells Tryz.zeroCells53 53)
    have b4 := (Below.refl w3.heap.size w3).alloc (Nat.le_refl _) (.cells Tryz.zeroCells53 53)
    have hx := HB3.out.size
    have HB4 := hid (HB3.out.trans (b4.mono hx))
    have HX := hid hx
    generalize w3.alloc (.cells Tryz.zeroCells53 53) = w4 at *
    generalize w3.heap.size = x at *
    have HP4 := hid (show Play [x] bs w4 w2.heap.size 600 400 0 s d x Non Non 0 Md0 from ⟨K4, M4, Rel.zero, by simp, hx⟩)
    clear M4 K4 b4 hx d1 d2
    go_wp2_with fail
    go_loopw [8, 11] (fun sv iv wr => ∃ i : Nat, i ≤ len0 ∧ iv = .int .i64 i ∧ ∃ (s nn c : Nat) (V N : Int → Option (List Nat)) (ep : Nat) (M : Md), sv = ptr s ∧ nn ≤ 1000 + 6000 * i ∧ c ≤ 1000 * i ∧ ep ≤ i ∧ Play [x] bs wr w2.heap.size 600 nn c s d x V N ep M ∧ Below w2.heap.size w2 wr) (fun _ iv _ => len0 - (RowKit.intOf iv).toNat)
    case atStart => exact ⟨0, by omega, rfl, s, 400, 0, Non, Non, 0, Md0, rfl, by omega, by omega, by omega, HP4.out, HB4.out⟩
    case round =>
      obtain ⟨i, hi, rfl, s, nn, c, V, N, ep, M, rfl, hnn, hcc, hee, hP, hb⟩ := hrel
      have HP := hid hP
      have HBW := hid hb
      by_cases hlt : i < len0
      · obtain ⟨b, o, rfl, K, Nn, sa, sl, sc, l, hdo, hs300, hnl⟩ := HL.out i hlt
        have hdw := hdo.below hb
        obtain ⟨c0, c1, c2⟩ := (⟨hdw.c0, hdw.c1, hdw.c2⟩ : _ ∧ _ ∧ _)
        have HDW := hid (And.intro hdw hnl)
        clear hP hb hdo hdw hnl
        by_cases hk3 : K = 3
        · subst K
          have hAr := HP.out.st.armed
          have HAr := hid hAr
          clear hAr
          go_upto_if 78 with fail
          go_cut [] from 47 to 175 (fun wx => ∃ k : Nat, k ≤ 50 ∧ Armed [x] bs wx w2.heap.size 600 nn c s d V N ep k ∧ MdAt wx x M ∧ Below w2.heap.size w2 wx)
          case first =>
            by_cases ha : i < len1
            · have di : decide ((i : Int) < (len1 : Int)) = true := decide_eq_true (by omega)
              have hI := HI1.out.below (HB2.out.trans (HBW.out.mono HB2.out.size))
              have hzl : i < z1.length := by rw [hI.len]; exact ha
              obtain ⟨ab, ao, rfl, hac⟩ := hI.at hzl
              have hzf := int_of (HW1.out _ (List.getElem_mem hzl))
              generalize z1[i] = zq at hac hzf
              obtain ⟨z, hz⟩ : ∃ z : Nat, zq % 50 = (z : Int) := ⟨(zq % 50).toNat, by omega⟩
              have hz50 : z ≤ 50 := by omega
              have hnu := number_w zq 50 wr (by decide) (by decide) hzf.1 hzf.2
              rw [hz] at hnu
              have har := HAr.out.arm (z := z) (by omega)
              clear hI hz
              go_wp2_with fail
              refine hnu.mono ?_
              rintro e wn ⟨rfl, hwn⟩
              subst wn
              go_wp2_with fail
              refine har.mono ?_
              rintro e w5 ⟨rfl, A5, b5, kp5⟩
              have HA5 := hid (And.intro A5 (And.intro (HP.out.md.kp kp5 (by simp)) (HBW.out.trans b5)))
              clear hnu har A5 b5 kp5
              go_wp2_with fail
              go_meet
              case rel => exact ⟨z, hz50, HA5.out.1, HA5.out.2.1, HA5.out.2.2⟩
            · have di : decide ((i : Int) < (len1 : Int)) = false := decide_eq_false (by omega)
              go_wp2_with fail
              go_meet
              case rel => exact ⟨0, by decide, HAr.out, HP.out.md, HBW.out⟩
          case rest =>
            obtain ⟨k, hk, A5, M5, B5⟩ := hcut
            have HM5 := hid M5
            have HB5 := hid B5
            have HA5 := hid A5
            have hch := A5.changed
            have hc256 := cnt_le256 N
            have hktt := HP.out.rel.cnt
            have h30 : cnt N ≤ 30 := by rw [hktt]; have := List.countP_le_length (p := M.tou) (l := List.range 30); simpa using this
            obtain ⟨cn, hcn⟩ : ∃ cn, cn = cnt N := ⟨_, rfl⟩
            rw [← hcn] at hch h30
            have HCN := hid hcn
            clear hcn hktt hc256 A5 M5 B5
            go_wp2_with fail
            refine hch.mono ?_
            rintro e w5' ⟨rfl, hw5⟩
            subst w5'
            clear hch
            by_cases hz : cn = 0
            · have hco := HA5.out.commit0 (by omega) (by rw [← HCN.out]; omega) (by omega) (by omega) (by rw [← HCN.out]; exact hz)
              rw [← HCN.out] at hco
              have HN := hid (show N = Non from HP.out.rel.non (by rw [← HCN.out]; exact hz))
              have hcn0 : ¬ 0 < cn := by omega
              clear hz
              go_wp2_with fail
              refine hco.mono ?_
              rintro e w6 ⟨rfl, A6, b6, kp6⟩
              have X6 := HM5.out.kp kp6 (by simp)
              have HA6 := hid A6
              have HB6 := hid (HB5.out.trans b6)
              clear hco A6 b6 kp6
              go_upto_region 20 with fail
              obtain ⟨th, Yn, bn⟩ := X6.spawn
              have X6' := X6.below bn
              have hne : x ≠ w6.heap.size := Nat.ne_of_lt X6.lt
              go_upto_region 21 with (first | (refine wpList_load_mid rfl 53 _ rfl x 0 rfl (M).all _ X6.range Tryz.underlying53 rfl (by rw [Md.all_len]; exact uM) ?_) | (refine wpList_store_mid rfl 53 _ _ rfl w6.heap.size 0 (M).all.toArray rfl rfl (th) (by simpa [Md.all_len] using uM) (M).all_one ?_))
              clear th X6
              generalize hY1 : w6.heap.size = y at *
              generalize (w6.alloc (.cells Tryz.zeroCells53 53)).setCells y 0 M.all = w7 at *
              have TW : Two w7 x y M M := ⟨X6', Yn, hne⟩
              have HT7 := hid (And.intro TW bn)
              have HY1 := hid hY1
              obtain ⟨L1, C1⟩ := TW.x_.xNowWas TW.y_
              clear hY1 Yn X6' hne TW bn
              go_upto_region 22 with (first | (refine wpList_load_mid rfl 50 _ rfl x 0 rfl L1 _ C1.rg Tryz.underlying50 rfl (by rw [C1.len]; exact uA) ?_) | (refine wpList_store_mid rfl 50 _ _ rfl y 30 L1.toArray rfl rfl C1.th (by simpa [C1.len] using uA) C1.one ?_))
              have TW := HT7.out.1.put C1.md C1.tn
              have bn := HT7.out.2.trans (HT7.out.1.bel C1.tn (Nat.le_refl _))
              generalize w7.setCells y 30 L1 = w8 at *
              have HT8 := hid (And.intro TW bn)
              obtain ⟨L2, C2⟩ := TW.x_.xOnHad TW.y_
              clear TW bn C1
              go_upto_region 23 with (first | (refine wpList_load_mid rfl 51 _ rfl x 60 rfl L2 _ C2.rg Tryz.underlying51 rfl (by rw [C2.len]; exact uB) ?_) | (refine wpList_store_mid rfl 51 _ _ rfl y 90 L2.toArray rfl rfl C2.th (by simpa [C2.len] using uB) C2.one ?_))
              have TW := HT8.out.1.put C2.md C2.tn
              have bn := HT8.out.2.trans (HT8.out.1.bel C2.tn (Nat.le_refl _))
              generalize w8.setCells y 90 L2 = w9 at *
              have HT9 := hid (And.intro TW bn)
              obtain ⟨th3, one3, Y3, T3⟩ := TW.y_.noTou
              clear TW bn C2
              go_upto_region 24 with (refine wpList_store_mid rfl 51 _ _ rfl y 121 (List.replicate 30 (Value.bool false)).toArray rfl rfl th3 (by simpa using uB) one3 ?_)
              have TW := HT9.out.1.put Y3 T3
              have bn := HT9.out.2.trans (HT9.out.1.bel T3 (Nat.le_refl _))
              generalize w9.setCells y 121 (List.replicate 30 (Value.bool false)) = w10 at *
              have HT10 := hid (And.intro TW bn)
              clear th3 one3 Y3 T3 TW bn
              go_upto_region 26 with fail
              have HT11 := HT10
              have A10 := HA6.out.grow (HY1.out ▸ HT10.out.2) (by rw [HY1.out]; exact Nat.le_refl _) HT10.out.1.y_.lt
              have hdn := A10.down
              have HA10 := hid A10
              clear A10
              go_wp2_with fail
              refine hdn.mono ?_
              rintro e wd ⟨rfl, hwd⟩
              subst wd
              have har := HA10.out.arm (z := 0) (by decide)
              clear hdn
              go_wp2_with fail
              refine har.mono ?_
              rintro e wa ⟨rfl, Aa, ba, kpa⟩
              have HXa := hid (And.intro (HT10.out.1.x_.kp kpa (by simp)) (HT10.out.1.y_.kp kpa (by simp)))
              have HKa := hid Aa.store
              have HBa := hid ((HB6.out.trans (HT10.out.2.mono (by have := HB6.out.size; have := HY1.out; omega))).trans ba)
              clear har Aa ba kpa
              go_upto_region 30 with fail
              have hXa := HXa.out.1.range
              have hYa := HXa.out.2.range
              have hth := HXa.out.1.there ({ M with was := M.now, had := M.on, tou := fun _ => false })
              clear hXa
              go_upto_region 12 with (first | (refine wpList_load_mid rfl 53 _ rfl y 0 rfl ({ M with was := M.now, had := M.on, tou := fun _ => false }).all _ hYa Tryz.underlying53 rfl (by rw [Md.all_len]; exact uM) ?_) | (refine wpList_store_mid rfl 53 _ _ rfl x 0 ({ M with was := M.now, had := M.on, tou := fun _ => false }).all.toArray rfl rfl (hth) (by simpa [Md.all_len] using uM) ({ M with was := M.now, had := M.on, tou := fun _ => false }).all_one ?_))
              have pw := Play.whole HKa.out HXa.out.1 HXa.out.2 (by have h := HP.out.rel.commit ep; have hN := HN.out; have he := HP.out.rel.ep; subst hN; subst he; exact h) (by simp) HX.out
              generalize wa.setCells x 0 ({ M with was := M.now, had := M.on, tou := fun _ => false }).all = we at *
              have HP9 := hid pw.1
              have HB9 := hid (HBa.out.trans pw.2)
              clear pw hYa hth
              go_wp2_with fail
              go_roundw
              case rel => exact ⟨i + 1, by omega, by go_num, _, _, _, _, _, _, _, rfl, by omega, by omega, by omega, HP9.out, HB9.out⟩
              case measure => simp [RowKit.intOf]; omega
            · have hco := HA5.out.commit (by omega) (by rw [← HCN.out]; omega) (by omega) (by omega) (by rw [← HCN.out]; exact hz) (by rw [← HCN.out]; omega) (q := 30) HP.out.rel.cntV HP.out.rel.cntW (by decide)
              rw [← HCN.out] at hco
              have hcn0 : 0 < cn := by omega
              clear hz
              go_wp2_with fail
              refine hco.mono ?_
              rintro e w6 ⟨hres, b6, kp6⟩
              have X6 := HM5.out.kp kp6 (by simp)
              have HB6 := hid (HB5.out.trans b6)
              clear hco b6 kp6
              rcases hres with ⟨rfl, c6, f6, hc6, hf6, A6⟩ | ⟨⟨a5, ha5, rfl⟩, G6⟩
              · have HA6 := hid A6
                clear A6
                go_upto_region 20 with fail
                obtain ⟨th, Yn, bn⟩ := X6.spawn
                have X6' := X6.below bn
                have hne : x ≠ w6.heap.size := Nat.ne_of_lt X6.lt
                go_upto_region 21 with (first | (refine wpList_load_mid rfl 53 _ rfl x 0 rfl (M).all _ X6.range Tryz.underlying53 rfl (by rw [Md.all_len]; exact uM) ?_) | (refine wpList_store_mid rfl 53 _ _ rfl w6.heap.size 0 (M).all.toArray rfl rfl (th) (by simpa [Md.all_len] using uM) (M).all_one ?_))
                clear th X6
                generalize hY1 : w6.heap.size = y at *
                generalize (w6.alloc (.cells Tryz.zeroCells53 53)).setCells y 0 M.all = w7 at *
                have TW : Two w7 x y M M := ⟨X6', Yn, hne⟩
                have HT7 := hid (And.intro TW bn)
                have HY1 := hid hY1
                obtain ⟨L1, C1⟩ := TW.x_.xNowWas TW.y_
                clear hY1 Yn X6' hne TW bn
                go_upto_region 22 with (first | (refine wpList_load_mid rfl 50 _ rfl x 0 rfl L1 _ C1.rg Tryz.underlying50 rfl (by rw [C1.len]; exact uA) ?_) | (refine wpList_store_mid rfl 50 _ _ rfl y 30 L1.toArray rfl rfl C1.th (by simpa [C1.len] using uA) C1.one ?_))
                have TW := HT7.out.1.put C1.md C1.tn
                have bn := HT7.out.2.trans (HT7.out.1.bel C1.tn (Nat.le_refl _))
                generalize w7.setCells y 30 L1 = w8 at *
                have HT8 := hid (And.intro TW bn)
                obtain ⟨L2, C2⟩ := TW.x_.xOnHad TW.y_
                clear TW bn C1
                go_upto_region 23 with (first | (refine wpList_load_mid rfl 51 _ rfl x 60 rfl L2 _ C2.rg Tryz.underlying51 rfl (by rw [C2.len]; exact uB) ?_) | (refine wpList_store_mid rfl 51 _ _ rfl y 90 L2.toArray rfl rfl C2.th (by simpa [C2.len] using uB) C2.one ?_))
                have TW := HT8.out.1.put C2.md C2.tn
                have bn := HT8.out.2.trans (HT8.out.1.bel C2.tn (Nat.le_refl _))
                generalize w8.setCells y 90 L2 = w9 at *
                have HT9 := hid (And.intro TW bn)
                obtain ⟨th3, one3, Y3, T3⟩ := TW.y_.noTou
                clear TW bn C2
                go_upto_region 24 with (refine wpList_store_mid rfl 51 _ _ rfl y 121 (List.replicate 30 (Value.bool false)).toArray rfl rfl th3 (by simpa using uB) one3 ?_)
                have TW := HT9.out.1.put Y3 T3
                have bn := HT9.out.2.trans (HT9.out.1.bel T3 (Nat.le_refl _))
                generalize w9.setCells y 121 (List.replicate 30 (Value.bool false)) = w10 at *
                have HT10 := hid (And.intro TW bn)
                clear th3 one3 Y3 T3 TW bn
                have x120 : w10.cell? ⟨y, 120, none⟩ = some (.int .i64 (ep : Int)) := by rw [HT10.out.1.y_.at_ _ (by omega), Md.val_ep]; exact congrArg (fun e : Nat => some (Value.int .i64 (e : Int))) HP.out.rel.ep
                have f120 := HT10.out.1.y_.frozen 120
                have fe : IntKind.i64.wrap ((ep : Int) + 1) = ((ep + 1 : Nat) : Int) := by rw [IntKind.wrap_i64]; omega
                go_upto_region 26 with fail
                have Y4 := HT10.out.1.y_.setEp (ep + 1)
                have T4 : Turn [y] w10 (w10.setCell ⟨y, 120, none⟩ (.int .i64 ((ep + 1 : Nat) : Int))) := Turn.setCell w10 y 120 _ (by simp)
                rw [Int.natCast_add, Int.natCast_one] at Y4 T4
                have TW := HT10.out.1.put Y4 T4
                have bn := HT10.out.2.trans (HT10.out.1.bel T4 (Nat.le_refl _))
                generalize w10.setCell ⟨y, 120, none⟩ (.int .i64 ((ep : Int) + 1)) = w11 at *
                have HT11 := hid (And.intro TW bn)
                clear x120 f120 fe Y4 T4 TW bn
                have A10 := HA6.out.grow (HY1.out ▸ HT11.out.2) (by rw [HY1.out]; exact Nat.le_refl _) HT11.out.1.y_.lt
                have hdn := A10.down
                have HA10 := hid A10
                clear A10
                go_wp2_with fail
                refine hdn.mono ?_
                rintro e wd ⟨rfl, hwd⟩
                subst wd
                have har := HA10.out.arm (z := 0) (by decide)
                clear hdn
                go_wp2_with fail
                refine har.mono ?_
                rintro e wa ⟨rfl, Aa, ba, kpa⟩
                have HXa := hid (And.intro (HT11.out.1.x_.kp kpa (by simp)) (HT11.out.1.y_.kp kpa (by simp)))
                have HKa := hid Aa.store
                have HBa := hid ((HB6.out.trans (HT11.out.2.mono (by have := HB6.out.size; have := HY1.out; omega))).trans ba)
                clear har Aa ba kpa
                go_upto_region 30 with fail
                have hXa := HXa.out.1.range
                have hYa := HXa.out.2.range
                have hth := HXa.out.1.there ({ M with was := M.now, had := M.on, tou := fun _ => false, ep := ep + 1 })
                clear hXa
                go_upto_region 12 with (first | (refine wpList_load_mid rfl 53 _ rfl y 0 rfl ({ M with was := M.now, had := M.on, tou := fun _ => false, ep := ep + 1 }).all _ hYa Tryz.underlying53 rfl (by rw [Md.all_len]; exact uM) ?_) | (refine wpList_store_mid rfl 53 _ _ rfl x 0 ({ M with was := M.now, had := M.on, tou := fun _ => false, ep := ep + 1 }).all.toArray rfl rfl (hth) (by simpa [Md.all_len] using uM) ({ M with was := M.now, had := M.on, tou := fun _ => false, ep := ep + 1 }).all_one ?_))
                have pw := Play.whole HKa.out HXa.out.1 HXa.out.2 (HP.out.rel.commit (ep + 1)) (by simp) HX.out
                generalize wa.setCells x 0 ({ M with was := M.now, had := M.on, tou := fun _ => false, ep := ep + 1 }).all = we at *
                have HP9 := hid pw.1
                have HB9 := hid (HBa.out.trans pw.2)
                clear pw hYa hth
                go_wp2_with fail
                go_roundw
                case rel => exact ⟨i + 1, by omega, by go_num, _, _, _, _, _, _, _, rfl, by omega, by omega, by omega, HP9.out, HB9.out⟩
                case measure => simp [RowKit.intOf]; omega
              · have HG6 := hid G6
                have HA5' := hid ha5
                clear G6 ha5
                go_upto_region 20 with fail
                obtain ⟨th, Yn, bn⟩ := X6.spawn
                have X6' := X6.below bn
                have hne : x ≠ w6.heap.size := Nat.ne_of_lt X6.lt
                go_upto_region 21 with (first | (refine wpList_load_mid rfl 53 _ rfl x 0 rfl (M).all _ X6.range Tryz.underlying53 rfl (by rw [Md.all_len]; exact uM) ?_) | (refine wpList_store_mid rfl 53 _ _ rfl w6.heap.size 0 (M).all.toArray rfl rfl (th) (by simpa [Md.all_len] using uM) (M).all_one ?_))
                clear th X6
                generalize hY1 : w6.heap.size = y at *
                generalize (w6.alloc (.cells Tryz.zeroCells53 53)).setCells y 0 M.all = w7 at *
                have TW : Two w7 x y M M := ⟨X6', Yn, hne⟩
                have HT7 := hid (And.intro TW bn)
                have HY1 := hid hY1
                obtain ⟨L1, C1⟩ := TW.x_.xNowWas TW.y_
                clear hY1 Yn X6' hne TW bn
                go_upto_region 22 with (first | (refine wpList_load_mid rfl 50 _ rfl x 0 rfl L1 _ C1.rg Tryz.underlying50 rfl (by rw [C1.len]; exact uA) ?_) | (refine wpList_store_mid rfl 50 _ _ rfl y 30 L1.toArray rfl rfl C1.th (by simpa [C1.len] using uA) C1.one ?_))
                have TW := HT7.out.1.put C1.md C1.tn
                have bn := HT7.out.2.trans (HT7.out.1.bel C1.tn (Nat.le_refl _))
                generalize w7.setCells y 30 L1 = w8 at *
                have HT8 := hid (And.intro TW bn)
                obtain ⟨L2, C2⟩ := TW.x_.xOnHad TW.y_
                clear TW bn C1
                go_upto_region 23 with (first | (refine wpList_load_mid rfl 51 _ rfl x 60 rfl L2 _ C2.rg Tryz.underlying51 rfl (by rw [C2.len]; exact uB) ?_) | (refine wpList_store_mid rfl 51 _ _ rfl y 90 L2.toArray rfl rfl C2.th (by simpa [C2.len] using uB) C2.one ?_))
                have TW := HT8.out.1.put C2.md C2.tn
                have bn := HT8.out.2.trans (HT8.out.1.bel C2.tn (Nat.le_refl _))
                generalize w8.setCells y 90 L2 = w9 at *
                have HT9 := hid (And.intro TW bn)
                obtain ⟨th3, one3, Y3, T3⟩ := TW.y_.noTou
                clear TW bn C2
                go_upto_region 24 with (refine wpList_store_mid rfl 51 _ _ rfl y 121 (List.replicate 30 (Value.bool false)).toArray rfl rfl th3 (by simpa using uB) one3 ?_)
                have TW := HT9.out.1.put Y3 T3
                have bn := HT9.out.2.trans (HT9.out.1.bel T3 (Nat.le_refl _))
                generalize w9.setCells y 121 (List.replicate 30 (Value.bool false)) = w10 at *
                have HT10 := hid (And.intro TW bn)
                clear th3 one3 Y3 T3 TW bn
                have x120 : w10.cell? ⟨y, 120, none⟩ = some (.int .i64 (ep : Int)) := by rw [HT10.out.1.y_.at_ _ (by omega), Md.val_ep]; exact congrArg (fun e : Nat => some (Value.int .i64 (e : Int))) HP.out.rel.ep
                have f120 := HT10.out.1.y_.frozen 120
                have fe : IntKind.i64.wrap ((ep : Int) + 1) = ((ep + 1 : Nat) : Int) := by rw [IntKind.wrap_i64]; omega
                go_upto_region 26 with fail
                have Y4 := HT10.out.1.y_.setEp (ep + 1)
                have T4 : Turn [y] w10 (w10.setCell ⟨y, 120, none⟩ (.int .i64 ((ep + 1 : Nat) : Int))) := Turn.setCell w10 y 120 _ (by simp)
                rw [Int.natCast_add, Int.natCast_one] at Y4 T4
                have TW := HT10.out.1.put Y4 T4
                have bn := HT10.out.2.trans (HT10.out.1.bel T4 (Nat.le_refl _))
                generalize w10.setCell ⟨y, 120, none⟩ (.int .i64 ((ep : Int) + 1)) = w11 at *
                have HT11 := hid (And.intro TW bn)
                clear x120 f120 fe Y4 T4 TW bn
                have G11 := HG6.out.grow (HY1.out ▸ HT11.out.2) (by rw [HY1.out]; exact Nat.le_refl _) HT11.out.1.y_.lt
                have hdn := G11.down
                have HG11 := hid G11
                have HB11 := hid (HB6.out.trans (HT11.out.2.mono (by have := HB6.out.size; have := HY1.out; omega)))
                clear G11
                go_wp2_with fail
                refine hdn.mono ?_
                rintro e wd ⟨rfl, hwd⟩
                subst wd
                have his := SeeW.is_w bs w11 (HBS.out.below HB11.out) 5 a5 HA5'.out 106
                have e106 : ((101 : Int) + ((5 : Nat) : Int) == 106) = true := by decide
                simp only [e106] at his
                clear hdn e106
                go_wp2_with fail
                refine his.mono ?_
                rintro e w12 ⟨rfl, b12⟩
                have G12 := HG11.out.below b12
                have HX12 := hid (And.intro (HT11.out.1.x_.below b12) (And.intro (HT11.out.1.y_.below b12) HT11.out.1.ne))
                have HB12 := hid (HB11.out.trans (b12.mono HG11.out.lo))
                have hcr := G12.crash (a := a2) (len := len2) (cap := cap2) (zs := z2) (by omega) (fun w' h => HI2.out.below (HB2.out.trans ((HB12.out.trans h).mono HB2.out.size)))
                clear his b12 G12
                go_wp2_with fail
                refine hcr.mono ?_
                rintro e w13 ⟨rfl, ⟨F, hF, hJ⟩, b13, kp13⟩
                have HC : ∃ Vn epn, ((Vn = V ∧ epn = ep) ∨ (Vn = view N V ∧ epn = ep + 1)) ∧ Ajar [y, x] bs w13 w2.heap.size 600 (nn + 8 * (cn + 7) + 700 + 300) (c + 2 * (cn + 7) + 4) d Vn epn 0 := by
                  rcases hF with h | h
                  · exact ⟨V, ep, .inl ⟨rfl, rfl⟩, hJ _ _ h⟩
                  · exact ⟨_, _, .inr ⟨rfl, rfl⟩, hJ _ _ h⟩
                obtain ⟨Vn, epn, hcase, J13⟩ := HC
                have HCA := hid hcase
                have hepn : epn ≤ ep + 1 := by rcases hcase with h | h <;> omega
                have HX13 := hid (And.intro (HX12.out.1.kp kp13 (by simp)) (And.intro (HX12.out.2.1.kp kp13 (by simp)) HX12.out.2.2))
                have HB13 := hid (HB12.out.trans b13)
                have har := J13.arm (z := 1 + i % 4) (by omega)
                rw [show (((1 + i % 4 : Nat)) : Int) = 1 + (i : Int) % 4 by omega] at har
                clear hcr hF hJ b13 kp13 hcase J13
                go_wp2_with fail
                refine har.mono ?_
                rintro e w14 ⟨rfl, J14, b14, kp14⟩
                have HX14 := hid (And.intro (HX13.out.1.kp kp14 (by simp)) (And.intro (HX13.out.2.1.kp kp14 (by simp)) HX13.out.2.2))
                have HB14 := hid (HB13.out.trans b14)
                have ho1 := J14.open1 (by omega) (by omega) (by omega) (by omega)
                clear har J14 b14 kp14
                go_wp2_with fail
                refine ho1.mono ?_
                rintro e w15 ⟨⟨u5, v5, rfl⟩, G15, b15, kp15⟩
                have HX15 := hid (And.intro (HX14.out.1.kp kp15 (by simp)) (And.intro (HX14.out.2.1.kp kp15 (by simp)) HX14.out.2.2))
                have HB15 := hid (HB14.out.trans b15)
                have hcr := G15.crash (a := a2) (len := len2) (cap := cap2) (zs := z2) (by omega) (fun w' h => HI2.out.below (HB2.out.trans ((HB15.out.trans h).mono HB2.out.size)))
                clear ho1 G15 b15 kp15
                go_wp2_with fail
                refine hcr.mono ?_
                rintro e w16 ⟨rfl, ⟨F2, hF2, hJ2⟩, b16, kp16⟩
                have J16 := hJ2 _ _ hF2
                have HX16 := hid (And.intro (HX15.out.1.kp kp16 (by simp)) (And.intro (HX15.out.2.1.kp kp16 (by simp)) HX15.out.2.2))
                have HB16 := hid (HB15.out.trans b16)
                have ho2 := J16.open2 (by omega) (by omega) (by omega)
                clear hcr hF2 hJ2 J16 b16 kp16
                go_wp2_with fail
                refine ho2.mono ?_
                rintro e w17 ⟨⟨s7, c7, rfl, hc7, K17⟩, b17, kp17⟩
                have X17 := HX16.out.1.kp kp17 (by simp)
                have HX17 := hid (And.intro (HX16.out.2.1.kp kp17 (by simp)) HX16.out.2.2)
                have HB17 := hid (HB16.out.trans b17)
                have HK17 := hid K17
                clear ho2 K17 b17 kp17
                go_upto_region 41 with fail
                obtain ⟨th, Yn, bn⟩ := X17.spawn
                have X17' := X17.below bn
                have hne : x ≠ w17.heap.size := Nat.ne_of_lt X17.lt
                go_upto_region 42 with (first | (refine wpList_load_mid rfl 53 _ rfl x 0 rfl (M).all _ X17.range Tryz.underlying53 rfl (by rw [Md.all_len]; exact uM) ?_) | (refine wpList_store_mid rfl 53 _ _ rfl w17.heap.size 0 (M).all.toArray rfl rfl (th) (by simpa [Md.all_len] using uM) (M).all_one ?_))
                clear th X17
                generalize hY2 : w17.heap.size = z at *
                generalize (w17.alloc (.cells Tryz.zeroCells53 53)).setCells z 0 M.all = w18 at *
                have TW : Two w18 x z M M := ⟨X17', Yn, hne⟩
                have HT18 := hid (And.intro TW bn)
                have HY2 := hid hY2
                obtain ⟨L1, C1⟩ := TW.x_.xWasNow TW.y_
                clear hY2 Yn X17' hne TW bn
                go_upto_region 43 with (first | (refine wpList_load_mid rfl 50 _ rfl x 30 rfl L1 _ C1.rg Tryz.underlying50 rfl (by rw [C1.len]; exact uA) ?_) | (refine wpList_store_mid rfl 50 _ _ rfl z 0 L1.toArray rfl rfl C1.th (by simpa [C1.len] using uA) C1.one ?_))
                have TW := HT18.out.1.put C1.md C1.tn
                have bn := HT18.out.2.trans (HT18.out.1.bel C1.tn (Nat.le_refl _))
                generalize w18.setCells z 0 L1 = w19 at *
                have HT19 := hid (And.intro TW bn)
                obtain ⟨L2, C2⟩ := TW.x_.xHadOn TW.y_
                clear TW bn C1
                go_upto_region 44 with (first | (refine wpList_load_mid rfl 51 _ rfl x 90 rfl L2 _ C2.rg Tryz.underlying51 rfl (by rw [C2.len]; exact uB) ?_) | (refine wpList_store_mid rfl 51 _ _ rfl z 60 L2.toArray rfl rfl C2.th (by simpa [C2.len] using uB) C2.one ?_))
                have TW := HT19.out.1.put C2.md C2.tn
                have bn := HT19.out.2.trans (HT19.out.1.bel C2.tn (Nat.le_refl _))
                generalize w19.setCells z 60 L2 = w20 at *
                have HT20 := hid (And.intro TW bn)
                obtain ⟨th3, one3, Y3, T3⟩ := TW.y_.noTou
                clear TW bn C2
                go_upto_region 46 with (refine wpList_store_mid rfl 51 _ _ rfl z 121 (List.replicate 30 (Value.bool false)).toArray rfl rfl th3 (by simpa using uB) one3 ?_)
                have TW := HT20.out.1.put Y3 T3
                have bn := HT20.out.2.trans (HT20.out.1.bel T3 (Nat.le_refl _))
                generalize w20.setCells z 121 (List.replicate 30 (Value.bool false)) = w21 at *
                have HT21 := hid (And.intro TW bn)
                clear th3 one3 Y3 T3 TW bn
                have K21 := HK17.out.grow (HY2.out ▸ HT21.out.2) (by rw [HY2.out]; exact Nat.le_refl _) HT21.out.1.y_.lt
                have HK21 := hid K21
                have bb : Below w17.heap.size w17 w21 := HY2.out ▸ HT21.out.2
                have HY21 := hid (HX17.out.1.below bb)
                have HB21 := hid (HB17.out.trans (bb.mono HB17.out.size))
                clear K21 bb
                rcases HCA.out with ⟨e1, e2⟩ | ⟨e1, e2⟩
                · subst e1 e2
                  have hsm := same_w [z, y, x] bs w2.heap.size 600 _ _ _ _ _ z _ _ _ w21 w21 HK21.out HT21.out.1.y_ HP.out.rel.abort (HBS.out.below HB21.out)
                  go_wp2_with fail
                  refine hsm.mono ?_
                  rintro e w22 ⟨rfl, b22⟩
                  have HK22 := hid (HK21.out.below b22)
                  have HX22 := hid (And.intro (HT21.out.1.x_.below b22) (HT21.out.1.y_.below b22))
                  have HB22 := hid (HB21.out.trans (b22.mono HK21.out.lo))
                  clear hsm b22
                  go_upto_region 47 with fail
                  have hYa := HX22.out.2.range
                  have hth := HX22.out.1.there ({ M with now := M.was, on := M.had, tou := fun _ => false })
                  go_upto_region 12 with (first | (refine wpList_load_mid rfl 53 _ rfl z 0 rfl ({ M with now := M.was, on := M.had, tou := fun _ => false }).all _ hYa Tryz.underlying53 rfl (by rw [Md.all_len]; exact uM) ?_) | (refine wpList_store_mid rfl 53 _ _ rfl x 0 ({ M with now := M.was, on := M.had, tou := fun _ => false }).all.toArray rfl rfl (hth) (by simpa [Md.all_len] using uM) ({ M with now := M.was, on := M.had, tou := fun _ => false }).all_one ?_))
                  have pw := Play.whole HK22.out HX22.out.1 HX22.out.2 HP.out.rel.abort (by simp) HX.out
                  generalize w22.setCells x 0 ({ M with now := M.was, on := M.had, tou := fun _ => false }).all = we at *
                  have HP9 := hid pw.1
                  have HB9 := hid (HB22.out.trans pw.2)
                  clear pw hYa hth
                  go_wp2_with fail
                  go_roundw
                  case rel => exact ⟨i + 1, by omega, by go_num, _, _, _, _, _, _, _, rfl, by omega, by omega, by omega, HP9.out, HB9.out⟩
                  case measure => simp [RowKit.intOf]; omega
                · subst e1 e2
                  have hno := same_no [z, y, x] bs w2.heap.size 600 _ _ _ _ _ z _ _ _ w21 HK21.out HT21.out.1.y_ (HBS.out.below HB21.out) (by have := HP.out.rel.ep; show M.ep ≠ ep + 1; omega)
                  go_wp2_with fail
                  refine hno.mono ?_
                  rintro e w22 ⟨rfl, b22⟩
                  have HK22 := hid (HK21.out.below b22)
                  have HX22 := hid (And.intro (HT21.out.1.x_.below b22) (HY21.out.below b22))
                  have HB22 := hid (HB21.out.trans (b22.mono HK21.out.lo))
                  have hsm := same_w [z, y, x] bs w2.heap.size 600 _ _ _ _ _ y _ _ _ w22 w22 HK22.out HX22.out.2 (HP.out.rel.commit (ep + 1)) (HBS.out.below HB22.out)
                  clear hno b22
                  go_wp2_with fail
                  refine hsm.mono ?_
                  rintro e w23 ⟨rfl, b23⟩
                  have HK23 := hid (HK22.out.below b23)
                  have HX23 := hid (And.intro (HX22.out.1.below b23) (HX22.out.2.below b23))
                  have HB23 := hid (HB22.out.trans (b23.mono HK22.out.lo))
                  clear hsm b23
                  go_upto_region 49 with fail
                  have hYa := HX23.out.2.range
                  have hth := HX23.out.1.there ({ M with was := M.now, had := M.on, tou := fun _ => false, ep := ep + 1 })
                  go_upto_region 12 with (first | (refine wpList_load_mid rfl 53 _ rfl y 0 rfl ({ M with was := M.now, had := M.on, tou := fun _ => false, ep := ep + 1 }).all _ hYa Tryz.underlying53 rfl (by rw [Md.all_len]; exact uM) ?_) | (refine wpList_store_mid rfl 53 _ _ rfl x 0 ({ M with was := M.now, had := M.on, tou := fun _ => false, ep := ep + 1 }).all.toArray rfl rfl (hth) (by simpa [Md.all_len] using uM) ({ M with was := M.now, had := M.on, tou := fun _ => false, ep := ep + 1 }).all_one ?_))
                  have pw := Play.whole HK23.out HX23.out.1 HX23.out.2 (HP.out.rel.commit (ep + 1)) (by simp) HX.out
                  generalize w23.setCells x 0 ({ M with was := M.now, had := M.on, tou := fun _ => false, ep := ep + 1 }).all = we at *
                  have HP9 := hid pw.1
                  have HB9 := hid (HB23.out.trans pw.2)
                  clear pw hYa hth
                  go_wp2_with fail
                  go_roundw
                  case rel => exact ⟨i + 1, by omega, by go_num, _, _, _, _, _, _, _, rfl, by omega, by omega, by omega, HP9.out, HB9.out⟩
                  case measure => simp [RowKit.intOf]; omega
        · have hkb : (K == 3) = false := by simp [hk3]
          by_cases hk5 : K < 5
          · have htd := told_w [x] bs w2.heap.size 600 nn c s d x V N ep M K Nn sa sl sc l wr HP.out (fun w' h => HBS.out.below (HBW.out.trans h)) (by omega) (by omega) (by omega) (by decide) HDW.out.1.nums HDW.out.1.bytes (by have := HDW.out.1.n64; unfold Fits; omega) hs300 HDW.out.2
            have d5 : decide (K < 5) = true := decide_eq_true hk5
            clear hk3
            go_wp2_with fail
            refine htd.mono ?_
            rintro e w5 ⟨rfl, ⟨nn', c', ep', V', N', M', g1, g2, g3, _, _, P5⟩, b5⟩
            have HP9 := hid P5
            have HB9 := hid (HBW.out.trans b5)
            clear htd P5 b5
            go_wp2_with fail
            go_roundw
            case rel => exact ⟨i + 1, by omega, by go_num, _, _, _, _, _, _, _, rfl, by omega, by omega, by omega, HP9.out, HB9.out⟩
            case measure => simp [RowKit.intOf]; omega
          · have d5 : decide (K < 5) = false := decide_eq_false hk5
            clear hk3
            go_wp2_with fail
            go_roundw
            case rel => exact ⟨i + 1, by omega, by go_num, _, _, _, _, _, _, _, rfl, by omega, by omega, by omega, HP.out, HBW.out⟩
            case measure => simp [RowKit.intOf]; omega
      · have HF := hid (HB2.out.trans (hb.mono HB2.out.size))
        clear hP hb
        go_wp2_with fail
        go_ret
        exact ⟨rfl, HF.out⟩
theorem walk {H : Type} {enc : TypeId × Value → H} (a0 : Option Addr) (len0 cap0 : Nat) (a1 : Option Addr) (len1 cap1 : Nat) (z1 : List Int) (a2 : Option Addr) (len2 cap2 : Nat) (z2 : List Int) (w : World) (hE : Err.All w gl) {fs : Array Field} (he : Tryz.prog.underlying 55 = some (.struct fs)) (w0 : Structs enc Tryz.prog w 0 (fun _ => true) true fs a0 len0 cap0) (w1 : IsRow .i64 w a1 len1 cap1 z1) (w2 : IsRow .i64 w a2 len2 cap2 z2) :
    Calls Tryz.prog 7 #[.slice a0 len0 cap0, .slice a1 len1 cap1, .slice a2 len2 cap2] w fun e w' => e = .returned (.bool true) ∧ Below w.heap.size w w' := by
  obtain ⟨bs, hbs⟩ := bs_of hE
  obtain ⟨l1, hl1, hw1⟩ := is_of w1
  obtain ⟨l2, hl2, _⟩ := is_of w2
  have hfs : fs.toList.map (·.type) = [3, 3, 35] := by
    have e := Option.some.inj (he.symm.trans Tryz.underlying55)
    cases e
    rfl
  have hl : len0 ≤ 9223372036854775807 := by
    rcases w0 with ⟨_, h, _⟩ | ⟨a, _, _, h1, h2, _⟩
    · omega
    · unfold maxLen at h2; omega
  exact done bs a0 len0 cap0 a1 len1 cap1 l1 a2 len2 cap2 l2 w hl1 hw1 hl2 hbs hl fun i hi => dop_at w0 hfs hi
end Go.Proofs.YtbjfgdahfpfgdaaGreatDoor.pageFalls
