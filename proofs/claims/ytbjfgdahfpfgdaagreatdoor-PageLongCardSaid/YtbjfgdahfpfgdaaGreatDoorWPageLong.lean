/- The walk of PageLong. -/
import Derived.Test.YtbjfgdahfpfgdaaGreatDoorPageLongP12
namespace Go.Proofs.YtbjfgdahfpfgdaaGreatDoor.pageLong
open Go Go.RowKit Go.Maps Go.Proofs.YtbjfgdahfpfgdaaGreatDoor.Mem Go.Proofs.YtbjfgdahfpfgdaaGreatDoor.MapsW Go.Proofs.YtbjfgdahfpfgdaaGreatDoor.SeeW Go.Proofs.YtbjfgdahfpfgdaaGreatDoor.DevG Go.Proofs.YtbjfgdahfpfgdaaGreatDoor.PgP Go.Proofs.YtbjfgdahfpfgdaaGreatDoor.PgW
set_option linter.unusedVariables false
set_option maxRecDepth 100000

set_option maxHeartbeats 16000000 in
theorem walk (a0 a1 : Int) (w : World) (hE : Err.All w [1, 0, 6, 2, 5, 4, 3]) (w0 : (Lit.int .i64 a0).wf = true) (w1 : (Lit.int .i64 a1).wf = true) :
    Calls Tryz.prog 4 #[.int .i64 a0, .int .i64 a1] w fun e w' => e = .returned (.bool true) ∧ Below w.heap.size w w' := by
  obtain ⟨bs, hB⟩ := ev_of7 hE
  have h0 := int_of w0
  have h1 := int_of w1
  obtain ⟨n, hn⟩ := Int.eq_ofNat_of_zero_le (Int.emod_nonneg a0 (show (60 : Int) ≠ 0 by decide))
  have hn4 : n < 60 := by have := Int.emod_lt_of_pos a0 (show (0 : Int) < 60 by decide); omega
  obtain ⟨q, hq⟩ := Int.eq_ofNat_of_zero_le (Int.emod_nonneg a1 (show (6 : Int) ≠ 0 by decide))
  have hq4 : q < 6 := by have := Int.emod_lt_of_pos a1 (show (0 : Int) < 6 by decide); omega
  have f1 : IntKind.i64.wrap ((q : Int) + 1) = ((q + 1 : Nat) : Int) := by rw [IntKind.wrap_i64]; omega
  obtain ⟨Q, hQq⟩ : ∃ Q, Q = q + 1 := ⟨_, rfl⟩
  rw [← hQq] at f1
  have hQ1 : 1 ≤ Q := by omega
  have hQ6 : Q ≤ 6 := by omega
  have HB := hid hB
  have HF := hid (first_w bs w hB)
  clear hE w0 w1 hB hQq hq4
  go_enter Tryz.func4, Tryz.ntmps4
  go_wp2_with fail
  refine HF.out.mono ?_
  rintro e w1 ⟨rfl, b1⟩
  have HB1 := hid b1
  have hop := opened_w bs w.heap.size 320 w1 (HB.out.below b1) b1.size (by decide) (by decide)
  clear b1
  go_wp2_with fail
  refine (NumW.number_w a0 60 _ (by decide) (by decide) h0.1 h0.2).mono ?_
  rintro e w' ⟨rfl, rfl⟩
  rw [hn]
  clear hn h0
  go_wp2_with fail
  refine (NumW.number_w a1 6 _ (by decide) (by decide) h1.1 h1.2).mono ?_
  rintro e w' ⟨rfl, rfl⟩
  rw [hq]
  clear hq h1
  go_wp2_with fail
  refine hop.mono ?_
  rintro e w3 ⟨s, d, rfl, K3, b3⟩
  have HB3 := hid (HB1.out.trans (b3.mono HB1.out.size))
  have HK3 := hid K3
  clear hop K3 b3
  go_upto_region 10 with fail
  have A4 := Ar15.made w3
  have K4 := HK3.out.alloc (.cells z15 44)
  have b4 := (Below.refl w3.heap.size w3).alloc (Nat.le_refl _) (.cells z15 44)
  have hly := HB3.out.size
  have HB4 := hid (HB3.out.trans (b4.mono hly))
  generalize hw4 : w3.alloc (.cells z15 44) = w4 at *
  generalize w3.heap.size = y at *
  have HK4 := hid (show StoreL y bs w4 w.heap.size 320 400 0 s d Non (fun _ => none) 0 from K4.toL)
  have HA4 := hid A4
  clear K4 A4 b4 hw4
  go_wp2_with fail
  go_loopw [9] (fun iv wr => ∃ i : Nat, i ≤ n ∧ iv = .int .i64 i ∧ ∃ (F : Nat → Nat) (nn c : Nat), (∀ j, F j ≤ i) ∧ nn ≤ 400 + 4000 * i ∧ c ≤ 600 * i ∧ Ar15 wr y F ∧ StoreL y bs wr w.heap.size 320 nn c s d (Vh F) (fun _ => none) i ∧ Below w.heap.size w wr) (fun iv _ => n - (RowKit.intOf iv).toNat)
  case atStart => exact ⟨0, by omega, rfl, fun _ => 0, 400, 0, fun _ => Nat.le_refl _, by omega, by omega, HA4.out, by rw [Vh_zero]; exact HK4.out, HB4.out⟩
  case round =>
    obtain ⟨i, hi, rfl, F, nn, c, hFi, hnn, hcc, hA, hK, hb⟩ := hrel
    have HA := hid hA
    have HK := hid hK
    have HW := hid hb
    have HFI := hid hFi
    clear hA hK hb hFi
    by_cases hlt : i < n
    · go_wp2_with fail
      go_loopw [10] (fun kv wr => ∃ k : Nat, k ≤ Q ∧ kv = .int .i64 k ∧ ∃ (G : Nat → Nat) (N : Int → Option (List Nat)), (∀ j, G j ≤ i + 1) ∧ view N (Vh F) = Vh G ∧ (0 < k → cnt N ≠ 0) ∧ Ar15 wr y G ∧ StoreL y bs wr w.heap.size 320 (nn + k) c s d (Vh F) N i ∧ Below w.heap.size w wr) (fun kv _ => Q - (RowKit.intOf kv).toNat)
      case atStart => exact ⟨0, by omega, rfl, F, _, fun j => Nat.le_succ_of_le (HFI.out j), rfl, fun h => absurd h (by omega), HA.out, HK.out, HW.out⟩
      case round =>
        obtain ⟨k, hk, rfl, G, N, hG, hv, hcn, hA, hK, hb⟩ := hrel
        by_cases hkl : k < Q
        · obtain ⟨p, hp⟩ : ∃ p, p = (i * 3 + k) % 15 := ⟨_, rfl⟩
          have hp15 : p < 15 := by omega
          have m1 : IntKind.i64.wrap ((i : Int) * 3) = (i : Int) * 3 := by rw [IntKind.wrap_i64]; omega
          obtain ⟨z, hz⟩ : ∃ z, z = i * 3 + k := ⟨_, rfl⟩
          have m2 : IntKind.i64.wrap ((i : Int) * 3 + (k : Int)) = (z : Int) := by rw [IntKind.wrap_i64]; omega
          have m3 : Int.tmod (z : Int) 15 = (p : Int) := by rw [hp, ← hz, Int.tmod_eq_emod_of_nonneg (by omega)]; omega
          obtain ⟨v, hvv⟩ : ∃ v, v = i + 1 := ⟨_, rfl⟩
          have m4 : IntKind.i64.wrap ((i : Int) + 1) = (v : Int) := by rw [IntKind.wrap_i64]; omega
          have m5 : IntKind.u8.wrap (v : Int) = (v : Int) := by rw [IntKind.wrap_u8]; omega
          have hpI : (p : Int) < 15 := by omega
          have y1 := hA.at_ p hp15
          have y2 := hA.unfrozen p
          have A5 := hA.set hp15 v
          have t5 : Turn [y] wr (wr.setCell ⟨y, p, none⟩ (.int .u8 (v : Int))) := Turn.setCell wr y p _ (by simp)
          have K5 := hK.set t5 hA.small hly
          have HB5 := hid (hb.trans (t5.below hb.size (fun x hx => by rw [List.mem_singleton.1 hx]; exact hly)))
          have HV := hid (And.intro hG (And.intro hv (And.intro hvv hp15)))
          clear hA hK hb hcn hz hp hvv hv hG t5
          go_upto_region 18 with fail
          generalize hw5 : wr.setCell ⟨y, p, none⟩ (.int .u8 (v : Int)) = w5 at *
          have bA := (Below.refl w5.heap.size w5).alloc (Nat.le_refl _) (.cells #[.int .u8 (v : Int)] 5)
          have hvi : v ≤ 61 := by have := HV.out.2.2.1; omega
          have hw := (K5.below bA).write (by omega) (p := (p : Int)) (isP_of (by omega)) (byte1 w5 v) (by simp) (by simp) (by intro x hx; simp at hx; omega)
          have HA5 := hid (A5.below bA)
          have HB6 := hid (HB5.out.trans (bA.mono HB5.out.size))
          clear K5 A5 bA hw5 y1 y2 m2 m3
          go_wp2_with fail
          refine hw.mono ?_
          rintro e w6 ⟨rfl, K6, b6, kp6⟩
          have HX6 := hid (And.intro K6 (And.intro (HA5.out.keep (kp6.blk y (by simp))) (HB6.out.trans b6)))
          clear hw K6 b6 kp6
          go_wp2_with fail
          go_roundw
          case rel =>
            obtain ⟨hG, hv, hvv, hp15'⟩ := HV.out
            refine ⟨k + 1, by omega, by go_num, upn G p v, _, fun j => ?_, Vh_upd hv hp15' (by omega), fun _ => cnt_pos (i := (p : Int)) (by omega) (by omega) (by rw [upd_same]; rfl), HX6.out.2.1, HX6.out.1, HX6.out.2.2⟩
            unfold upn
            split
            · omega
            · exact hG j
          case measure => simp [RowKit.intOf]; omega
        · have hkq : k = Q := by omega
          have hc0 := hcn (by omega)
          have hce := cnt_le256 N
          have hvc : cnt (view N (Vh F)) ≤ 15 := by rw [hv]; exact Vh_cnt G
          have hco := hK.st.commit (q := 15) (by omega) (by omega) (by omega) hc0 (Vh_cnt F) hvc (by decide)
          rw [hv] at hco
          obtain ⟨N8, hN8⟩ : ∃ N8, N8 = nn + k + 8 * (cnt N + 7) + 700 := ⟨_, rfl⟩
          rw [← hN8] at hco
          have hN8' : N8 ≤ nn + 4000 := by omega
          obtain ⟨C8, hC8⟩ : ∃ C8, C8 = c + 2 * (cnt N + 7) + 4 := ⟨_, rfl⟩
          rw [← hC8] at hco
          have hC8' : C8 ≤ c + 600 := by omega
          have HG := hid hG
          have HA5 := hid hA
          have HB5 := hid hb
          subst k
          clear hK hA hb hcn hc0 hce hvc hv hG hN8 hC8
          go_wp2_with fail
          refine hco.mono ?_
          rintro e w6 ⟨rfl, ⟨c6, hc6, K6⟩, b6, kp6⟩
          have HX6 := hid (And.intro K6.toL (And.intro (HA5.out.keep (kp6.blk y (by simp))) (HB5.out.trans b6)))
          clear hco K6 b6 kp6
          go_wp2_with fail
          go_roundw
          case rel => exact ⟨i + 1, by omega, by go_num, G, N8, c6, HG.out, by omega, by omega, HX6.out.2.1, HX6.out.1, HX6.out.2.2⟩
          case measure => simp [RowKit.intOf]; omega
    · have hin : i = n := by omega
      have hop := HK.out.st.open_ (by omega) (by omega) (by omega)
      subst i
      go_wp2_with fail
      refine hop.mono ?_
      rintro e w5 ⟨⟨s5, rfl, K5⟩, b5, kp5⟩
      have hep := K5.epoch
      have HK5 := hid K5
      have HA5 := hid (HA.out.keep (kp5.blk y (by simp)))
      have HB5 := hid (HW.out.trans b5)
      clear hop K5 b5 kp5
      go_wp2_with fail
      refine hep.mono ?_
      rintro e w6 ⟨rfl, hw6⟩
      subst w6
      clear hep
      go_wp2_with fail
      go_loopw [14] (fun kv wr => ∃ k : Nat, k ≤ 15 ∧ kv = .int .i64 k ∧ Below w5.heap.size w5 wr) (fun kv _ => 15 - (RowKit.intOf kv).toNat)
      case atStart => exact ⟨0, by omega, rfl, Below.refl _ _⟩
      case round =>
        obtain ⟨k, hk, rfl, hb⟩ := hrel
        have HBW := hid hb
        by_cases hkl : k < 15
        · have hrd := (HK5.out.below hb).readL (p := (k : Int)) (isP_of (by omega))
          have y1 := (HA5.out.below hb).at_ k hkl
          have hkI : (k : Int) < 15 := by omega
          have hF60 := HFI.out k
          rw [Vh_at F hkl] at hrd
          generalize F k = v at *
          clear hb
          unfold ReadToL at hrd
          by_cases hv0 : 0 < v
          · rw [if_pos hv0] at hrd
            simp only at hrd
            go_wp2_with fail
            refine hrd.mono ?_
            rintro e w6 ⟨⟨ra, rc, rfl, hnm⟩, b6⟩
            have y6 := kept b6 y1
            have HB6 := hid (HBW.out.trans (b6.mono HBW.out.size))
            have BA := (Below.refl w6.heap.size w6).alloc (Nat.le_refl _) (.cells #[.int .u8 (v : Int)] 5)
            have BA := BA.trans ((Below.refl (w6.alloc (.cells #[.int .u8 (v : Int)] 5)).heap.size _).drew.mono BA.size)
            have hsm := RefW.same_w ra 1 rc [v] (some ⟨w6.heap.size, 0, none⟩) 1 1 [v] (w6.alloc (.cells #[.int .u8 (v : Int)] 5)).drew (Nums.below hnm BA) (Nums.below (byte1 w6 v) (Below.refl _ _).drew)
            rw [decide_eq_true rfl] at hsm
            have yB := kept BA y6
            clear hrd b6 hnm y1
            go_upto_region 29 with fail
            refine wp_region_held_drew (S := fun w' => w'.cell? ⟨y, k, none⟩ = some (.int .u8 (v : Int))) (by kernel_rfl) y6 (fun hHeld => ?_)
            refine wpAnyH_take (i := 0) (v := .nilIface) (by simp only [List.getElem?_toArray, List.getElem?_cons_zero]; rfl) (by kernel_rfl) (by kernel_rfl) (by kernel_rfl) (by exact fun _ _ _ h => h) (Or.inl ⟨by rfl, ?_⟩) (by assumption) ?_
            · intro w hSw
              go_simp
            simp only [Act.put, List.setIfInBounds_toArray, List.set_cons_zero, List.set_cons_succ]
            refine wpAnyH_take (i := 1) (v := .bool true) (by simp only [List.getElem?_toArray, List.getElem?_cons_zero, List.getElem?_cons_succ]; rfl) (by kernel_rfl) (by kernel_rfl) (by kernel_rfl) (by exact fun _ _ _ h => h) (Or.inl ⟨by rfl, ?_⟩) (by assumption) ?_
            · intro w hSw
              go_simp
            simp only [Act.put, List.setIfInBounds_toArray, List.set_cons_zero, List.set_cons_succ]
            refine wpAnyH_take (i := 2) (v := .int .i64 (k : Int)) (by simp only [List.getElem?_toArray, List.getElem?_cons_zero, List.getElem?_cons_succ]; rfl) (by kernel_rfl) (by kernel_rfl) (by kernel_rfl) (by exact fun _ _ _ h => h) (Or.inl ⟨by rfl, ?_⟩) (by assumption) ?_
            · intro w hSw
              go_simp
            simp only [Act.put, List.setIfInBounds_toArray, List.set_cons_zero, List.set_cons_succ]
            refine wpAnyH_take (i := 3) (v := .pointer (some ⟨y, k, none⟩)) (by simp only [List.getElem?_toArray, List.getElem?_cons_zero, List.getElem?_cons_succ]; rfl) (by kernel_rfl) (by kernel_rfl) (by kernel_rfl) (by exact fun _ _ _ h => h) (Or.inl ⟨by rfl, ?_⟩) (by assumption) ?_
            · intro w hSw
              go_simp
            simp only [Act.put, List.setIfInBounds_toArray, List.set_cons_zero, List.set_cons_succ]
            refine wpAnyH_take (i := 4) (v := .int .u8 (v : Int)) (by simp only [List.getElem?_toArray, List.getElem?_cons_zero, List.getElem?_cons_succ]; rfl) (by kernel_rfl) (by kernel_rfl) (by kernel_rfl) (by exact fun _ _ _ h => h) (Or.inl ⟨by rfl, ?_⟩) (by assumption) ?_
            · intro w hSw
              go_simp
            simp only [Act.put, List.setIfInBounds_toArray, List.set_cons_zero, List.set_cons_succ]
            refine wpAnyH_take (i := 5) (v := .bool true) (by simp only [List.getElem?_toArray, List.getElem?_cons_zero, List.getElem?_cons_succ]; rfl) (by kernel_rfl) (by kernel_rfl) (by kernel_rfl) (by exact fun _ _ _ h => h) (Or.inl ⟨by rfl, ?_⟩) (by assumption) ?_
            · intro w hSw
              go_simp
            simp only [Act.put, List.setIfInBounds_toArray, List.set_cons_zero, List.set_cons_succ]
            refine wpAnyH_take (i := 6) (v := .bool false) (by simp only [List.getElem?_toArray, List.getElem?_cons_zero, List.getElem?_cons_succ]; rfl) (by kernel_rfl) (by kernel_rfl) (by kernel_rfl) (by exact fun _ _ _ h => h) (Or.inl ⟨by rfl, ?_⟩) (by assumption) ?_
            · intro w hSw
              go_simp
            simp only [Act.put, List.setIfInBounds_toArray, List.set_cons_zero, List.set_cons_succ]
            refine wpAnyH_take (i := 7) (v := .bool false) (by simp only [List.getElem?_toArray, List.getElem?_cons_zero, List.getElem?_cons_succ]; rfl) (by kernel_rfl) (by kernel_rfl) (by kernel_rfl) (by exact fun _ _ _ h => h) (Or.inl ⟨by rfl, ?_⟩) (by assumption) ?_
            · intro w hSw
              go_simp
            simp only [Act.put, List.setIfInBounds_toArray, List.set_cons_zero, List.set_cons_succ]
            refine wpAnyH_take (i := 8) (v := .nilIface) (by simp only [List.getElem?_toArray, List.getElem?_cons_zero, List.getElem?_cons_succ]; rfl) (by kernel_rfl) (by kernel_rfl) (by kernel_rfl) (by exact fun _ _ _ h => h) (Or.inl ⟨by rfl, ?_⟩) (by assumption) ?_
            · intro w hSw
              go_simp
            simp only [Act.put, List.setIfInBounds_toArray, List.set_cons_zero, List.set_cons_succ]
            refine wpAnyH_take (i := 9) (v := .bool true) (by simp only [List.getElem?_toArray, List.getElem?_cons_zero, List.getElem?_cons_succ]; rfl) (by kernel_rfl) (by kernel_rfl) (by kernel_rfl) (by exact fun _ _ _ h => h) (Or.inl ⟨by rfl, ?_⟩) (by assumption) ?_
            · intro w hSw
              go_simp
            simp only [Act.put, List.setIfInBounds_toArray, List.set_cons_zero, List.set_cons_succ]
            refine wpAnyH_take (i := 10) (v := .bool true) (by simp only [List.getElem?_toArray, List.getElem?_cons_zero, List.getElem?_cons_succ]; rfl) (by kernel_rfl) (by kernel_rfl) (by kernel_rfl) (by exact fun _ _ _ h => h) (Or.inl ⟨by rfl, ?_⟩) (by assumption) ?_
            · intro w hSw
              go_simp
            simp only [Act.put, List.setIfInBounds_toArray, List.set_cons_zero, List.set_cons_succ]
            refine wpAnyH_take (i := 11) (v := .slice ra 1 rc) (by simp only [List.getElem?_toArray, List.getElem?_cons_zero, List.getElem?_cons_succ]; rfl) (by kernel_rfl) (by kernel_rfl) (by kernel_rfl) (by exact fun _ _ _ h => h) (Or.inl ⟨by rfl, ?_⟩) (by assumption) ?_
            · intro w hSw
              go_simp
            simp only [Act.put, List.setIfInBounds_toArray, List.set_cons_zero, List.set_cons_succ]
            refine wpAnyH_take (i := 12) (v := .int .i64 (k : Int)) (by simp only [List.getElem?_toArray, List.getElem?_cons_zero, List.getElem?_cons_succ]; rfl) (by kernel_rfl) (by kernel_rfl) (by kernel_rfl) (by exact fun _ _ _ h => h) (Or.inl ⟨by rfl, ?_⟩) (by assumption) ?_
            · intro w hSw
              go_simp
            simp only [Act.put, List.setIfInBounds_toArray, List.set_cons_zero, List.set_cons_succ]
            refine wpAnyH_take (i := 13) (v := .pointer (some ⟨y, k, none⟩)) (by simp only [List.getElem?_toArray, List.getElem?_cons_zero, List.getElem?_cons_succ]; rfl) (by kernel_rfl) (by kernel_rfl) (by kernel_rfl) (by exact fun _ _ _ h => h) (Or.inl ⟨by rfl, ?_⟩) (by assumption) ?_
            · intro w hSw
              go_simp
            simp only [Act.put, List.setIfInBounds_toArray, List.set_cons_zero, List.set_cons_succ]
            refine wpAnyH_take (i := 14) (v := .int .u8 (v : Int)) (by simp only [List.getElem?_toArray, List.getElem?_cons_zero, List.getElem?_cons_succ]; rfl) (by kernel_rfl) (by kernel_rfl) (by kernel_rfl) (by exact fun _ _ _ h => h) (Or.inl ⟨by rfl, ?_⟩) (by assumption) ?_
            · intro w hSw
              go_simp
            simp only [Act.put, List.setIfInBounds_toArray, List.set_cons_zero, List.set_cons_succ]
            refine wpAnyH_ready (rs := [15]) (by kernel_rfl) (by simp) ?_
            refine AllReadyH.cons (by simp only [List.getElem?_toArray, List.getElem?_cons_zero, List.getElem?_cons_succ]; rfl) (fun K0 hK => ?_) AllReadyH.nil
            go_simp
            refine hK.out _ _ yB (fun hHeld => ?_)
            clear hK K0
            refine wpAnyH_ready (rs := [16]) (by kernel_rfl) (by simp) ?_
            refine AllReadyH.cons (by simp only [List.getElem?_toArray, List.getElem?_cons_zero, List.getElem?_cons_succ]; rfl) (fun K0 hK => ?_) AllReadyH.nil
            go_simp
            refine (hsm).mono ?_
            rintro e w7 ⟨rfl, b7⟩
            have B7 := BA.trans (b7.mono BA.size)
            go_wp2_with fail
            refine hK.out _ _ (kept b7 yB) (fun hHeld => ?_)
            clear hK K0
            refine wpAnyH_take (i := 17) (v := .bool false) (by simp only [List.getElem?_toArray, List.getElem?_cons_zero, List.getElem?_cons_succ]; rfl) (by kernel_rfl) (by kernel_rfl) (by kernel_rfl) (by exact fun _ _ _ h => h) (Or.inl ⟨by rfl, ?_⟩) (by assumption) ?_
            · intro w hSw
              go_simp
            simp only [Act.put, List.setIfInBounds_toArray, List.set_cons_zero, List.set_cons_succ]
            refine wpAnyH_take (i := 18) (v := .bool false) (by simp only [List.getElem?_toArray, List.getElem?_cons_zero, List.getElem?_cons_succ]; rfl) (by kernel_rfl) (by kernel_rfl) (by kernel_rfl) (by exact fun _ _ _ h => h) (Or.inl ⟨by rfl, ?_⟩) (by assumption) ?_
            · intro w hSw
              go_simp
            simp only [Act.put, List.setIfInBounds_toArray, List.set_cons_zero, List.set_cons_succ]
            refine wpAnyH_take (i := 19) (v := .bool false) (by simp only [List.getElem?_toArray, List.getElem?_cons_zero, List.getElem?_cons_succ]; rfl) (by kernel_rfl) (by kernel_rfl) (by kernel_rfl) (by exact fun _ _ _ h => h) (Or.inl ⟨by rfl, ?_⟩) (by assumption) ?_
            · intro w hSw
              go_simp
            simp only [Act.put, List.setIfInBounds_toArray, List.set_cons_zero, List.set_cons_succ]
            refine wpAnyH_done (by kernel_rfl) ?_ _
            have HF7 := hid (HB6.out.trans (B7.mono HB6.out.size))
            clear hsm y6 yB b7 B7 BA hHeld
            go_wp2_with fail
            go_roundw
            case rel => exact ⟨k + 1, by omega, by go_num, HF7.out⟩
            case measure => simp [RowKit.intOf]; omega
          · rw [if_neg hv0] at hrd
            simp only at hrd
            have hv1 : decide ((0 : Int) < (v : Int)) = false := decide_eq_false (by omega)
            go_wp2_with fail
            refine hrd.mono ?_
            rintro e w6 ⟨⟨a8, ha8, rfl⟩, b6⟩
            have y6 := kept b6 y1
            have HB6 := hid (HBW.out.trans (b6.mono HBW.out.size))
            clear hrd b6 y1
            go_upto_region 29 with fail
            refine wp_region_held_drew (S := fun w' => w'.cell? ⟨y, k, none⟩ = some (.int .u8 (v : Int))) (by kernel_rfl) y6 (fun hHeld => ?_)
            refine wpAnyH_take (i := 0) (v := ev a8) (by simp only [List.getElem?_toArray, List.getElem?_cons_zero]; rfl) (by kernel_rfl) (by kernel_rfl) (by kernel_rfl) (by exact fun _ _ _ h => h) (Or.inl ⟨by rfl, ?_⟩) (by assumption) ?_
            · intro w hSw
              go_simp
            simp only [Act.put, List.setIfInBounds_toArray, List.set_cons_zero, List.set_cons_succ]
            refine wpAnyH_take (i := 1) (v := .bool false) (by simp only [List.getElem?_toArray, List.getElem?_cons_zero, List.getElem?_cons_succ]; rfl) (by kernel_rfl) (by kernel_rfl) (by kernel_rfl) (by exact fun _ _ _ h => h) (Or.inl ⟨by rfl, ?_⟩) (by assumption) ?_
            · intro w hSw
              go_simp
            simp only [Act.put, List.setIfInBounds_toArray, List.set_cons_zero, List.set_cons_succ]
            refine wpAnyH_take (i := 2) (v := .int .i64 (k : Int)) (by simp only [List.getElem?_toArray, List.getElem?_cons_zero, List.getElem?_cons_succ]; rfl) (by kernel_rfl) (by kernel_rfl) (by kernel_rfl) (by exact fun _ _ _ h => h) (Or.inl ⟨by rfl, ?_⟩) (by assumption) ?_
            · intro w hSw
              go_simp
            simp only [Act.put, List.setIfInBounds_toArray, List.set_cons_zero, List.set_cons_succ]
            refine wpAnyH_take (i := 3) (v := .pointer (some ⟨y, k, none⟩)) (by simp only [List.getElem?_toArray, List.getElem?_cons_zero, List.getElem?_cons_succ]; rfl) (by kernel_rfl) (by kernel_rfl) (by kernel_rfl) (by exact fun _ _ _ h => h) (Or.inl ⟨by rfl, ?_⟩) (by assumption) ?_
            · intro w hSw
              go_simp
            simp only [Act.put, List.setIfInBounds_toArray, List.set_cons_zero, List.set_cons_succ]
            refine wpAnyH_take (i := 4) (v := .int .u8 (v : Int)) (by simp only [List.getElem?_toArray, List.getElem?_cons_zero, List.getElem?_cons_succ]; rfl) (by kernel_rfl) (by kernel_rfl) (by kernel_rfl) (by exact fun _ _ _ h => h) (Or.inl ⟨by rfl, ?_⟩) (by assumption) ?_
            · intro w hSw
              go_simp
            simp only [Act.put, List.setIfInBounds_toArray, List.set_cons_zero, List.set_cons_succ]
            refine wpAnyH_take (i := 5) (v := .bool false) (by simp only [List.getElem?_toArray, List.getElem?_cons_zero, List.getElem?_cons_succ]; rfl) (by kernel_rfl) (by kernel_rfl) (by kernel_rfl) (by exact fun _ _ _ h => h) (Or.inl ⟨by rfl, ?_⟩) (by assumption) ?_
            · intro w hSw
              go_simp
            simp only [Act.put, List.setIfInBounds_toArray, List.set_cons_zero, List.set_cons_succ]
            refine wpAnyH_take (i := 6) (v := .bool false) (by simp only [List.getElem?_toArray, List.getElem?_cons_zero, List.getElem?_cons_succ]; rfl) (by kernel_rfl) (by kernel_rfl) (by kernel_rfl) (by exact fun _ _ _ h => h) (Or.inl ⟨by rfl, ?_⟩) (by assumption) ?_
            · intro w hSw
              go_simp
            simp only [Act.put, List.setIfInBounds_toArray, List.set_cons_zero, List.set_cons_succ]
            refine wpAnyH_take (i := 7) (v := .bool false) (by simp only [List.getElem?_toArray, List.getElem?_cons_zero, List.getElem?_cons_succ]; rfl) (by kernel_rfl) (by kernel_rfl) (by kernel_rfl) (by exact fun _ _ _ h => h) (Or.inl ⟨by rfl, ?_⟩) (by assumption) ?_
            · intro w hSw
              go_simp
            simp only [Act.put, List.setIfInBounds_toArray, List.set_cons_zero, List.set_cons_succ]
            refine wpAnyH_take (i := 8) (v := ev a8) (by simp only [List.getElem?_toArray, List.getElem?_cons_zero, List.getElem?_cons_succ]; rfl) (by kernel_rfl) (by kernel_rfl) (by kernel_rfl) (by exact fun _ _ _ h => h) (Or.inl ⟨by rfl, ?_⟩) (by assumption) ?_
            · intro w hSw
              go_simp
            simp only [Act.put, List.setIfInBounds_toArray, List.set_cons_zero, List.set_cons_succ]
            refine wpAnyH_take (i := 9) (v := .bool false) (by simp only [List.getElem?_toArray, List.getElem?_cons_zero, List.getElem?_cons_succ]; rfl) (by kernel_rfl) (by kernel_rfl) (by kernel_rfl) (by exact fun _ _ _ h => h) (Or.inl ⟨by rfl, ?_⟩) (by assumption) ?_
            · intro w hSw
              go_simp
            simp only [Act.put, List.setIfInBounds_toArray, List.set_cons_zero, List.set_cons_succ]
            refine wpAnyH_take (i := 10) (v := .bool false) (by simp only [List.getElem?_toArray, List.getElem?_cons_zero, List.getElem?_cons_succ]; rfl) (by kernel_rfl) (by kernel_rfl) (by kernel_rfl) (by exact fun _ _ _ h => h) (Or.inl ⟨by rfl, ?_⟩) (by assumption) ?_
            · intro w hSw
              go_simp
            simp only [Act.put, List.setIfInBounds_toArray, List.set_cons_zero, List.set_cons_succ]
            refine wpAnyH_take (i := 11) (v := undef) (by simp only [List.getElem?_toArray, List.getElem?_cons_zero, List.getElem?_cons_succ]; rfl) (by kernel_rfl) (by kernel_rfl) (by kernel_rfl) (by exact fun _ _ _ h => h) (Or.inr ⟨by rfl, rfl⟩) (by assumption) ?_
            simp only [Act.put, List.setIfInBounds_toArray, List.set_cons_zero, List.set_cons_succ]
            refine wpAnyH_take (i := 12) (v := undef) (by simp only [List.getElem?_toArray, List.getElem?_cons_zero, List.getElem?_cons_succ]; rfl) (by kernel_rfl) (by kernel_rfl) (by kernel_rfl) (by exact fun _ _ _ h => h) (Or.inr ⟨by rfl, rfl⟩) (by assumption) ?_
            simp only [Act.put, List.setIfInBounds_toArray, List.set_cons_zero, List.set_cons_succ]
            refine wpAnyH_take (i := 13) (v := undef) (by simp only [List.getElem?_toArray, List.getElem?_cons_zero, List.getElem?_cons_succ]; rfl) (by kernel_rfl) (by kernel_rfl) (by kernel_rfl) (by exact fun _ _ _ h => h) (Or.inr ⟨by rfl, rfl⟩) (by assumption) ?_
            simp only [Act.put, List.setIfInBounds_toArray, List.set_cons_zero, List.set_cons_succ]
            refine wpAnyH_take (i := 14) (v := undef) (by simp only [List.getElem?_toArray, List.getElem?_cons_zero, List.getElem?_cons_succ]; rfl) (by kernel_rfl) (by kernel_rfl) (by kernel_rfl) (by exact fun _ _ _ h => h) (Or.inr ⟨by rfl, rfl⟩) (by assumption) ?_
            simp only [Act.put, List.setIfInBounds_toArray, List.set_cons_zero, List.set_cons_succ]
            refine wpAnyH_take (i := 15) (v := undef) (by simp only [List.getElem?_toArray, List.getElem?_cons_zero, List.getElem?_cons_succ]; rfl) (by kernel_rfl) (by kernel_rfl) (by kernel_rfl) (by exact fun _ _ _ h => h) (Or.inr ⟨by rfl, rfl⟩) (by assumption) ?_
            simp only [Act.put, List.setIfInBounds_toArray, List.set_cons_zero, List.set_cons_succ]
            refine wpAnyH_take (i := 16) (v := undef) (by simp only [List.getElem?_toArray, List.getElem?_cons_zero, List.getElem?_cons_succ]; rfl) (by kernel_rfl) (by kernel_rfl) (by kernel_rfl) (by exact fun _ _ _ h => h) (Or.inr ⟨by rfl, rfl⟩) (by assumption) ?_
            simp only [Act.put, List.setIfInBounds_toArray, List.set_cons_zero, List.set_cons_succ]
            refine wpAnyH_take (i := 17) (v := undef) (by simp only [List.getElem?_toArray, List.getElem?_cons_zero, List.getElem?_cons_succ]; rfl) (by kernel_rfl) (by kernel_rfl) (by kernel_rfl) (by exact fun _ _ _ h => h) (Or.inr ⟨by rfl, rfl⟩) (by assumption) ?_
            simp only [Act.put, List.setIfInBounds_toArray, List.set_cons_zero, List.set_cons_succ]
            refine wpAnyH_take (i := 18) (v := .bool false) (by simp only [List.getElem?_toArray, List.getElem?_cons_zero, List.getElem?_cons_succ]; rfl) (by kernel_rfl) (by kernel_rfl) (by kernel_rfl) (by exact fun _ _ _ h => h) (Or.inl ⟨by rfl, ?_⟩) (by assumption) ?_
            · intro w hSw
              go_simp
            simp only [Act.put, List.setIfInBounds_toArray, List.set_cons_zero, List.set_cons_succ]
            refine wpAnyH_take (i := 19) (v := .bool false) (by simp only [List.getElem?_toArray, List.getElem?_cons_zero, List.getElem?_cons_succ]; rfl) (by kernel_rfl) (by kernel_rfl) (by kernel_rfl) (by exact fun _ _ _ h => h) (Or.inl ⟨by rfl, ?_⟩) (by assumption) ?_
            · intro w hSw
              go_simp
            simp only [Act.put, List.setIfInBounds_toArray, List.set_cons_zero, List.set_cons_succ]
            refine wpAnyH_done (by kernel_rfl) ?_ _
            have HF7 := hid (HB6.out.trans ((Below.refl w6.heap.size w6).drew.mono HB6.out.size))
            clear y6 hHeld
            go_wp2_with fail
            go_roundw
            case rel => exact ⟨k + 1, by omega, by go_num, HF7.out⟩
            case measure => simp [RowKit.intOf]; omega
        · have HF7 := hid (HB5.out.trans (hb.mono HB5.out.size))
          clear hb
          go_wp2_with fail
          go_ret
          exact ⟨rfl, HF7.out⟩
end Go.Proofs.YtbjfgdahfpfgdaaGreatDoor.pageLong
