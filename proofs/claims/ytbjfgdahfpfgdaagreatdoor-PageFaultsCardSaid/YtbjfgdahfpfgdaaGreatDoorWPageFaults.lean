/- The walk of PageFaults. -/
import Derived.Test.YtbjfgdahfpfgdaaGreatDoorPageFaultsP22
import Derived.Test.YtbjfgdahfpfgdaaGreatDoorPageFaultsP23
import Derived.Test.YtbjfgdahfpfgdaaGreatDoorPageFaultsP24
import Derived.Test.YtbjfgdahfpfgdaaGreatDoorPageFaultsP5
import Derived.Test.YtbjfgdahfpfgdaaGreatDoorPageFaultsP7
namespace Go.Proofs.YtbjfgdahfpfgdaaGreatDoor.pageFaults
open Go Go.RowKit Go.Maps Go.Proofs.YtbjfgdahfpfgdaaGreatDoor.Mem Go.Proofs.YtbjfgdahfpfgdaaGreatDoor.MapsW Go.Proofs.YtbjfgdahfpfgdaaGreatDoor.SeeW Go.Proofs.YtbjfgdahfpfgdaaGreatDoor.DevG Go.Proofs.YtbjfgdahfpfgdaaGreatDoor.PgP Go.Proofs.YtbjfgdahfpfgdaaGreatDoor.PgW Go.Proofs.YtbjfgdahfpfgdaaGreatDoor.Ints Go.Proofs.YtbjfgdahfpfgdaaGreatDoor.NumW Go.Proofs.YtbjfgdahfpfgdaaGreatDoor.BlobW
set_option linter.unusedVariables false
set_option maxRecDepth 100000

set_option maxHeartbeats 16000000 in
theorem done (bs : List Addr) (a0 : Option Addr) (len0 cap0 : Nat) (z0 : List Int) (a1 : Option Addr) (len1 cap1 : Nat) (z1 : List Int) (a2 : Int) (w : World) (hI0 : Is w a0 len0 cap0 z0) (hw0 : ∀ x ∈ z0, (Lit.int .i64 x).wf = true) (hI1 : Is w a1 len1 cap1 z1) (hw1 : ∀ x ∈ z1, (Lit.int .i64 x).wf = true) (hB : Bs w bs) :
    Calls Tryz.prog 9 #[.slice a0 len0 cap0, .slice a1 len1 cap1, .int .u32 a2] w fun e w' => e = .returned (.bool true) ∧ Below w.heap.size w w' := by
  have HF := hid (first_w bs w (Ev.of_bs hB seven (by decide)))
  have HB := hid hB
  have HI0 := hid hI0
  have HI1 := hid hI1
  have HW0 := hid hw0
  have HW1 := hid hw1
  obtain ⟨q1, q2⟩ := hI0.bound
  obtain ⟨q3, q4⟩ := hI1.bound
  clear hB hI0 hI1 hw0 hw1
  have HT := hid (show ∃ t : Nat, bits .or .u32 a2 1 = (t : Int) ∧ t < 4294967296 from by
    obtain ⟨t, h1, _, h2⟩ := or_u32 a2 1 (by decide) (by decide)
    exact ⟨t, h1, h2⟩)
  go_enter Tryz.func9, Tryz.ntmps9
  go_wp2_with fail
  refine HF.out.mono ?_
  rintro e w1 ⟨rfl, b1⟩
  have HB1 := hid b1
  clear b1
  by_cases g1 : len0 = 0
  · have d1 : ((len0 : Int) == 0) = true := by rw [beq_iff_eq]; omega
    clear g1
    go_wp2_with fail
    go_ret
    exact ⟨rfl, HB1.out⟩
  have d1 : ((len0 : Int) == 0) = false := by rw [beq_eq_false_iff_ne]; omega
  by_cases g2 : 30 < len0
  · have d2 : decide ((30 : Int) < (len0 : Int)) = true := decide_eq_true (by omega)
    go_wp2_with fail
    go_ret
    exact ⟨rfl, HB1.out⟩
  have d2 : decide ((30 : Int) < (len0 : Int)) = false := decide_eq_false (by omega)
  by_cases g3 : 20 < len1
  · have d3 : decide ((20 : Int) < (len1 : Int)) = true := decide_eq_true (by omega)
    go_wp2_with fail
    go_ret
    exact ⟨rfl, HB1.out⟩
  have d3 : decide ((20 : Int) < (len1 : Int)) = false := decide_eq_false (by omega)
  have HBS := hid (HB.out.below HB1.out)
  have hop := opened_w bs w1.heap.size 400 w1 (Ev.of_bs (HB.out.below HB1.out) seven (by decide)) (Nat.le_refl _) (by decide) (by decide)
  go_wp2_with fail
  refine hop.mono ?_
  rintro e w3 ⟨s, d, rfl, K3, b3⟩
  have HK3 := hid K3
  have HB3 := hid b3
  clear hop K3 b3
  go_upto_region 10 with fail
  have M4 := MdAt.made w3
  have K4 := HK3.out.alloc (.cells Tryz.zeroCells53 53)
  have b4 := (Below.refl w3.heap.size w3).alloc (Nat.le_refl _) (.cells Tryz.zeroCells53 53)
  have hx := HB3.out.size
  have HB4 := hid (HB3.out.trans (b4.mono hx))
  have HX := hid hx
  generalize w3.alloc (.cells Tryz.zeroCells53 53) = w4 at *
  generalize w3.heap.size = x at *
  have HP4 := hid (show Play [x] bs w4 w1.heap.size 400 400 0 s d x Non Non 0 Md0 from ⟨K4, M4, Rel.zero, by simp, hx⟩)
  clear M4 K4 b4 hx d1 d2 d3
  go_wp2_with fail
  go_loopw [11] (fun iv wr => ∃ i : Nat, i ≤ len0 ∧ iv = .int .i64 i ∧ ∃ (nn c : Nat) (V N : Int → Option (List Nat)) (ep : Nat) (M : Md), nn ≤ 1000 + 3000 * i ∧ c ≤ 700 * i ∧ ep ≤ i ∧ Play [x] bs wr w1.heap.size 400 nn c s d x V N ep M ∧ (0 < i → ∃ p, (view N V p).isSome = true) ∧ Below w1.heap.size w1 wr) (fun iv _ => len0 - (RowKit.intOf iv).toNat)
  case atStart => exact ⟨0, by omega, rfl, 400, 0, Non, Non, 0, Md0, by omega, by omega, by omega, HP4.out, fun h => absurd h (Nat.lt_irrefl _), HB4.out⟩
  case round =>
    obtain ⟨i, hi, rfl, nn, c, V, N, ep, M, hnn, hcc, hee, hP, hsome, hb⟩ := hrel
    have HP := hid hP
    have HBW := hid hb
    have HSO := hid hsome
    clear hP hsome hb
    by_cases hlt : i < len0
    · --DEV0
      have hzl : i < z0.length := by rw [HI0.out.len]; exact hlt
      obtain ⟨ab, ao, rfl, hac⟩ := (HI0.out.below HB1.out).at hzl
      have hzf := int_of (HW0.out _ (List.getElem_mem hzl))
      generalize z0[i] = zq at hac hzf
      have hab := World.block_lt_of_cell? _ _ hac
      have HCI := hid (fun (wX : World) (hb : Below w1.heap.size w1 wX) => ((hb.cell (p := ⟨ab, ao + i, none⟩) hab).trans hac : wX.cell? ⟨ab, ao + i, none⟩ = some (.int .i64 zq)))
      have hcell := HCI.out wr HBW.out
      obtain ⟨z, hz⟩ : ∃ z : Nat, zq % 30 = (z : Int) := ⟨(zq % 30).toNat, by omega⟩
      have hz30 : z < 30 := by omega
      obtain ⟨bq, hbq⟩ : ∃ bq : Nat, zq % 256 = (bq : Int) := ⟨(zq % 256).toNat, by omega⟩
      have hb256 : bq < 256 := by omega
      have fb : IntKind.u8.wrap zq = (bq : Int) := by rw [IntKind.wrap_u8]; exact hbq
      have fi8 : IntKind.u8.wrap (i : Int) = (i : Int) := by rw [IntKind.wrap_u8]; omega
      have hnu := fun (w' : World) => number_w zq 30 w' (by decide) (by decide) hzf.1 hzf.2
      rw [hz] at hnu
      have hal := (Below.refl wr.heap.size wr).alloc (Nat.le_refl _) (.cells #[.int .u8 (i : Int), .int .u8 (bq : Int), .int .u8 3] 5)
      have HB5 := hid (HBW.out.trans (hal.mono HBW.out.size))
      have hrow : Nums .u8 (wr.alloc (.cells #[.int .u8 (i : Int), .int .u8 (bq : Int), .int .u8 3] 5)) (some ⟨wr.heap.size, 0, none⟩) 3 3 [i, bq, 3] := Row.fresh wr #[.int .u8 (i : Int), .int .u8 (bq : Int), .int .u8 3] 5 (0, 0) 3 rfl (by decide)
      have HT1 := hid (fun (wX : World) (hb : Below (wr.alloc (.cells #[.int .u8 (i : Int), .int .u8 (bq : Int), .int .u8 3] 5)).heap.size (wr.alloc (.cells #[.int .u8 (i : Int), .int .u8 (bq : Int), .int .u8 3] 5)) wX) =>
        (told1_w [x] bs w1.heap.size 400 nn c s d x V N ep M z (some ⟨wr.heap.size, 0, none⟩) 3 [i, bq, 3] wX ((HP.out.below hal).below hb) ((HBS.out.below HB5.out).below hb) (by omega) hz30 (hrow.below hb) (by simp) (by simp) (by intro y hy; simp at hy; omega) (by simp)).mono fun e w' ⟨h1, h2, h3⟩ => (⟨h1, h2, (hb.mono HB5.out.size).trans h3⟩ : e = Ending.returned (.bool true) ∧ (∃ M', Play [x] bs w' w1.heap.size 400 (nn + 1) c s d x V (upd N (z : Int) (some [i, bq, 3])) ep M') ∧ Below w1.heap.size (wr.alloc (.cells #[.int .u8 (i : Int), .int .u8 (bq : Int), .int .u8 3] 5)) w'))
      have HTC := hid (fun (w6 : World) (M6 : Md) (hp : Play [x] bs w6 w1.heap.size 400 (nn + 1) c s d x V (upd N (z : Int) (some [i, bq, 3])) ep M6) => toldC_w [x] bs w1.heap.size 400 (nn + 1) c s d x V (upd N (z : Int) (some [i, bq, 3])) ep M6 0 none 0 0 w6 hp (by omega) (by omega) (by omega) (by decide))
      have hso1 : (view (upd N (z : Int) (some [i, bq, 3])) V (z : Int)).isSome = true := by unfold view; rw [upd_same]; rfl
      have HSO1 := hid (show ∃ p, (view (upd N (z : Int) (some [i, bq, 3])) V p).isSome = true from ⟨_, hso1⟩)
      have HSOC := hid (show ∃ p, (view Non (view (upd N (z : Int) (some [i, bq, 3])) V) p).isSome = true from ⟨_, hso1⟩)
      clear hac hzf hz hbq hal hrow hso1
      go_upto_region 13 with fail
      go_cut [89] from 60 to 89 (fun v wx => v = .bool false ∧ ∃ (nn' c' : Nat) (V' N' : Int → Option (List Nat)) (ep' : Nat) (M' : Md), nn' ≤ 1000 + 3000 * (i + 1) ∧ c' ≤ 700 * (i + 1) ∧ ep' ≤ i + 1 ∧ Play [x] bs wx w1.heap.size 400 nn' c' s d x V' N' ep' M' ∧ (∃ p, (view N' V' p).isSome = true) ∧ Below w1.heap.size w1 wx)
      case first =>
        have htm : (i : Int).tmod 9 = (i : Int) % 9 := Int.tmod_eq_emod_of_nonneg (by omega)
        by_cases h8 : (i : Int) % 9 = 8
--R13
        · have h8b : ((i : Int) % 9 == 8) = true := by rw [beq_iff_eq]; omega
          clear h8
          refine wp_region_held_drew (S := fun w' => w'.cell? ⟨ab, ao + i, none⟩ = some (.int .i64 zq)) (by kernel_rfl) hcell (fun hHeld => ?_)
          refine wpAnyH_take (i := 0) (v := ptr s) (by simp only [List.getElem?_toArray, List.getElem?_cons_zero]; rfl) (by kernel_rfl) (by kernel_rfl) (by kernel_rfl) (by exact fun _ _ _ h => h) (Or.inl ⟨by rfl, ?_⟩) (by assumption) ?_
          · intro w hSw
            go_simp
          simp only [Act.put, List.setIfInBounds_toArray, List.set_cons_zero, List.set_cons_succ]
          refine wpAnyH_take (i := 1) (v := ptr x) (by simp only [List.getElem?_toArray, List.getElem?_cons_zero, List.getElem?_cons_succ]; rfl) (by kernel_rfl) (by kernel_rfl) (by kernel_rfl) (by exact fun _ _ _ h => h) (Or.inl ⟨by rfl, ?_⟩) (by assumption) ?_
          · intro w hSw
            go_simp
          simp only [Act.put, List.setIfInBounds_toArray, List.set_cons_zero, List.set_cons_succ]
          refine wpAnyH_take (i := 2) (v := .slice (some ⟨ab, ao, none⟩) len0 cap0) (by simp only [List.getElem?_toArray, List.getElem?_cons_zero, List.getElem?_cons_succ]; rfl) (by kernel_rfl) (by kernel_rfl) (by kernel_rfl) (by exact fun _ _ _ h => h) (Or.inl ⟨by rfl, ?_⟩) (by assumption) ?_
          · intro w hSw
            go_simp
          simp only [Act.put, List.setIfInBounds_toArray, List.set_cons_zero, List.set_cons_succ]
          refine wpAnyH_take (i := 3) (v := .int .i64 (i : Int)) (by simp only [List.getElem?_toArray, List.getElem?_cons_zero, List.getElem?_cons_succ]; rfl) (by kernel_rfl) (by kernel_rfl) (by kernel_rfl) (by exact fun _ _ _ h => h) (Or.inl ⟨by rfl, ?_⟩) (by assumption) ?_
          · intro w hSw
            go_simp
          simp only [Act.put, List.setIfInBounds_toArray, List.set_cons_zero, List.set_cons_succ]
          refine wpAnyH_take (i := 4) (v := .pointer (some ⟨ab, ao + i, none⟩)) (by simp only [List.getElem?_toArray, List.getElem?_cons_zero, List.getElem?_cons_succ]; rfl) (by kernel_rfl) (by kernel_rfl) (by kernel_rfl) (by exact fun _ _ _ h => h) (Or.inl ⟨by rfl, ?_⟩) (by assumption) ?_
          · intro w hSw
            go_simp
          simp only [Act.put, List.setIfInBounds_toArray, List.set_cons_zero, List.set_cons_succ]
          refine wpAnyH_take (i := 5) (v := .int .i64 zq) (by simp only [List.getElem?_toArray, List.getElem?_cons_zero, List.getElem?_cons_succ]; rfl) (by kernel_rfl) (by kernel_rfl) (by kernel_rfl) (by exact fun _ _ _ h => h) (Or.inl ⟨by rfl, ?_⟩) (by assumption) ?_
          · intro w hSw
            go_simp
          simp only [Act.put, List.setIfInBounds_toArray, List.set_cons_zero, List.set_cons_succ]
          refine wpAnyH_take (i := 7) (v := .int .i64 (i : Int)) (by simp only [List.getElem?_toArray, List.getElem?_cons_zero, List.getElem?_cons_succ]; rfl) (by kernel_rfl) (by kernel_rfl) (by kernel_rfl) (by exact fun _ _ _ h => h) (Or.inl ⟨by rfl, ?_⟩) (by assumption) ?_
          · intro w hSw
            go_simp
          simp only [Act.put, List.setIfInBounds_toArray, List.set_cons_zero, List.set_cons_succ]
          refine wpAnyH_take (i := 8) (v := .int .u8 (i : Int)) (by simp only [List.getElem?_toArray, List.getElem?_cons_zero, List.getElem?_cons_succ]; rfl) (by kernel_rfl) (by kernel_rfl) (by kernel_rfl) (by exact fun _ _ _ h => h) (Or.inl ⟨by rfl, ?_⟩) (by assumption) ?_
          · intro w hSw
            go_simp
          simp only [Act.put, List.setIfInBounds_toArray, List.set_cons_zero, List.set_cons_succ]
          refine wpAnyH_take (i := 9) (v := .slice (some ⟨ab, ao, none⟩) len0 cap0) (by simp only [List.getElem?_toArray, List.getElem?_cons_zero, List.getElem?_cons_succ]; rfl) (by kernel_rfl) (by kernel_rfl) (by kernel_rfl) (by exact fun _ _ _ h => h) (Or.inl ⟨by rfl, ?_⟩) (by assumption) ?_
          · intro w hSw
            go_simp
          simp only [Act.put, List.setIfInBounds_toArray, List.set_cons_zero, List.set_cons_succ]
          refine wpAnyH_take (i := 10) (v := .int .i64 (i : Int)) (by simp only [List.getElem?_toArray, List.getElem?_cons_zero, List.getElem?_cons_succ]; rfl) (by kernel_rfl) (by kernel_rfl) (by kernel_rfl) (by exact fun _ _ _ h => h) (Or.inl ⟨by rfl, ?_⟩) (by assumption) ?_
          · intro w hSw
            go_simp
          simp only [Act.put, List.setIfInBounds_toArray, List.set_cons_zero, List.set_cons_succ]
          refine wpAnyH_take (i := 11) (v := .pointer (some ⟨ab, ao + i, none⟩)) (by simp only [List.getElem?_toArray, List.getElem?_cons_zero, List.getElem?_cons_succ]; rfl) (by kernel_rfl) (by kernel_rfl) (by kernel_rfl) (by exact fun _ _ _ h => h) (Or.inl ⟨by rfl, ?_⟩) (by assumption) ?_
          · intro w hSw
            go_simp
          simp only [Act.put, List.setIfInBounds_toArray, List.set_cons_zero, List.set_cons_succ]
          refine wpAnyH_take (i := 12) (v := .int .i64 zq) (by simp only [List.getElem?_toArray, List.getElem?_cons_zero, List.getElem?_cons_succ]; rfl) (by kernel_rfl) (by kernel_rfl) (by kernel_rfl) (by exact fun _ _ _ h => h) (Or.inl ⟨by rfl, ?_⟩) (by assumption) ?_
          · intro w hSw
            go_simp
          simp only [Act.put, List.setIfInBounds_toArray, List.set_cons_zero, List.set_cons_succ]
          refine wpAnyH_take (i := 13) (v := .int .u8 (bq : Int)) (by simp only [List.getElem?_toArray, List.getElem?_cons_zero, List.getElem?_cons_succ]; rfl) (by kernel_rfl) (by kernel_rfl) (by kernel_rfl) (by exact fun _ _ _ h => h) (Or.inl ⟨by rfl, ?_⟩) (by assumption) ?_
          · intro w hSw
            go_simp
          simp only [Act.put, List.setIfInBounds_toArray, List.set_cons_zero, List.set_cons_succ]
          refine wpAnyH_ready (rs := [6, 14]) (by kernel_rfl) (by simp) ?_
          refine AllReadyH.cons (by simp only [List.getElem?_toArray, List.getElem?_cons_zero, List.getElem?_cons_succ]; rfl) (fun K0 hK => ?_) (AllReadyH.cons (by simp only [List.getElem?_toArray, List.getElem?_cons_zero, List.getElem?_cons_succ]; rfl) (fun K0 hK => ?_) AllReadyH.nil)
          · go_simp
            refine (hnu _).mono ?_
            rintro e wn ⟨rfl, hwn⟩
            subst wn
            go_wp2_with fail
            refine hK.out _ _ (by first | assumption | exact HCI.out _ (by first | exact B5 | exact HBW.out | exact HBW.out.drew)) (fun hHeld => ?_)
            clear hK K0
            refine wpAnyH_ready (rs := [14]) (by kernel_rfl) (by simp) ?_
            refine AllReadyH.cons (by simp only [List.getElem?_toArray, List.getElem?_cons_zero, List.getElem?_cons_succ]; rfl) (fun K0 hK => ?_) AllReadyH.nil
            go_simp
            have B5 := HB5.out
            refine hK.out _ _ (HCI.out _ (by first | exact B5 | exact B5.drew)) (fun hHeld => ?_)
            clear hK K0
            refine wpAnyH_take (i := 15) (v := .agg #[.int .i64 1, .int .i64 (z : Int), .slice (some ⟨wr.heap.size, 0, none⟩) 3 3]) (by simp only [List.getElem?_toArray, List.getElem?_cons_zero, List.getElem?_cons_succ]; rfl) (by kernel_rfl) (by kernel_rfl) (by kernel_rfl) (by exact fun _ _ _ h => h) (Or.inl ⟨by rfl, ?_⟩) (by assumption) ?_
            · intro w hSw
              go_simp
            simp only [Act.put, List.setIfInBounds_toArray, List.set_cons_zero, List.set_cons_succ]
            refine wpAnyH_ready (rs := [16]) (by kernel_rfl) (by simp) ?_
            refine AllReadyH.cons (by simp only [List.getElem?_toArray, List.getElem?_cons_zero, List.getElem?_cons_succ]; rfl) (fun K0 hK => ?_) AllReadyH.nil
            go_simp
            refine (HT1.out _ (by first | exact Below.refl _ _ | exact (Below.refl _ _).drew)).mono ?_
            rintro e w6 ⟨rfl, ⟨M6, P6⟩, b6⟩
            have B6 := HB5.out.trans b6
            have HP6 := hid P6
            have HB6 := hid B6
            go_wp2_with fail
            refine hK.out _ _ (HCI.out _ B6) (fun hHeld => ?_)
            clear hK K0 P6 b6
            refine wpAnyH_take (i := 17) (v := .bool false) (by simp only [List.getElem?_toArray, List.getElem?_cons_zero, List.getElem?_cons_succ]; rfl) (by kernel_rfl) (by kernel_rfl) (by kernel_rfl) (by exact fun _ _ _ h => h) (Or.inl ⟨by rfl, ?_⟩) (by assumption) ?_
            · intro w hSw
              go_simp
            simp only [Act.put, List.setIfInBounds_toArray, List.set_cons_zero, List.set_cons_succ]
            refine wpAnyH_take (i := 18) (v := .bool false) (by simp only [List.getElem?_toArray, List.getElem?_cons_zero, List.getElem?_cons_succ]; rfl) (by kernel_rfl) (by kernel_rfl) (by kernel_rfl) (by exact fun _ _ _ h => h) (Or.inl ⟨by rfl, ?_⟩) (by assumption) ?_
            · intro w hSw
              go_simp
            simp only [Act.put, List.setIfInBounds_toArray, List.set_cons_zero, List.set_cons_succ]
            refine wpAnyH_take (i := 19) (v := .int .i64 (i : Int)) (by simp only [List.getElem?_toArray, List.getElem?_cons_zero, List.getElem?_cons_succ]; rfl) (by kernel_rfl) (by kernel_rfl) (by kernel_rfl) (by exact fun _ _ _ h => h) (Or.inl ⟨by rfl, ?_⟩) (by assumption) ?_
            · intro w hSw
              go_simp
            simp only [Act.put, List.setIfInBounds_toArray, List.set_cons_zero, List.set_cons_succ]
            refine wpAnyH_take (i := 20) (v := .int .i64 ((i : Int) % 9)) (by simp only [List.getElem?_toArray, List.getElem?_cons_zero, List.getElem?_cons_succ]; rfl) (by kernel_rfl) (by kernel_rfl) (by kernel_rfl) (by exact fun _ _ _ h => h) (Or.inl ⟨by rfl, ?_⟩) (by assumption) ?_
            · intro w hSw
              go_simp
            simp only [Act.put, List.setIfInBounds_toArray, List.set_cons_zero, List.set_cons_succ]
            refine wpAnyH_take (i := 21) (v := .bool true) (by simp only [List.getElem?_toArray, List.getElem?_cons_zero, List.getElem?_cons_succ]; rfl) (by kernel_rfl) (by kernel_rfl) (by kernel_rfl) (by exact fun _ _ _ h => h) (Or.inl ⟨by rfl, ?_⟩) (by assumption) ?_
            · intro w hSw
              go_simp
            simp only [Act.put, List.setIfInBounds_toArray, List.set_cons_zero, List.set_cons_succ]
            refine wpAnyH_take (i := 22) (v := .bool true) (by simp only [List.getElem?_toArray, List.getElem?_cons_zero, List.getElem?_cons_succ]; rfl) (by kernel_rfl) (by kernel_rfl) (by kernel_rfl) (by exact fun _ _ _ h => h) (Or.inl ⟨by rfl, ?_⟩) (by assumption) ?_
            · intro w hSw
              go_simp
            simp only [Act.put, List.setIfInBounds_toArray, List.set_cons_zero, List.set_cons_succ]
            refine wpAnyH_take (i := 23) (v := ptr s) (by simp only [List.getElem?_toArray, List.getElem?_cons_zero, List.getElem?_cons_succ]; rfl) (by kernel_rfl) (by kernel_rfl) (by kernel_rfl) (by exact fun _ _ _ h => h) (Or.inl ⟨by rfl, ?_⟩) (by assumption) ?_
            · intro w hSw
              go_simp
            simp only [Act.put, List.setIfInBounds_toArray, List.set_cons_zero, List.set_cons_succ]
            refine wpAnyH_take (i := 24) (v := ptr x) (by simp only [List.getElem?_toArray, List.getElem?_cons_zero, List.getElem?_cons_succ]; rfl) (by kernel_rfl) (by kernel_rfl) (by kernel_rfl) (by exact fun _ _ _ h => h) (Or.inl ⟨by rfl, ?_⟩) (by assumption) ?_
            · intro w hSw
              go_simp
            simp only [Act.put, List.setIfInBounds_toArray, List.set_cons_zero, List.set_cons_succ]
            refine wpAnyH_take (i := 25) (v := .agg #[.int .i64 3, .int .i64 0, .slice none 0 0]) (by simp only [List.getElem?_toArray, List.getElem?_cons_zero, List.getElem?_cons_succ]; rfl) (by kernel_rfl) (by kernel_rfl) (by kernel_rfl) (by exact fun _ _ _ h => h) (Or.inl ⟨by rfl, ?_⟩) (by assumption) ?_
            · intro w hSw
              go_simp
            simp only [Act.put, List.setIfInBounds_toArray, List.set_cons_zero, List.set_cons_succ]
            refine wpAnyH_ready (rs := [26]) (by kernel_rfl) (by simp) ?_
            refine AllReadyH.cons (by simp only [List.getElem?_toArray, List.getElem?_cons_zero, List.getElem?_cons_succ]; rfl) (fun K0 hK => ?_) AllReadyH.nil
            go_simp
            refine (HTC.out w6 M6 HP6.out).mono ?_
            rintro e w7 ⟨rfl, ⟨nn7, c7, ep7, M7, g1, g2, g3, P7⟩, b7⟩
            have B7 := HB6.out.trans b7
            have HP7 := hid P7
            have HB7 := hid B7
            have HG := hid (And.intro g1 (And.intro g2 g3))
            go_wp2_with fail
            refine hK.out _ _ (HCI.out _ B7) (fun hHeld => ?_)
            clear hK K0 P7 b7 g1 g2 g3
            refine wpAnyH_take (i := 27) (v := .bool false) (by simp only [List.getElem?_toArray, List.getElem?_cons_zero, List.getElem?_cons_succ]; rfl) (by kernel_rfl) (by kernel_rfl) (by kernel_rfl) (by exact fun _ _ _ h => h) (Or.inl ⟨by rfl, ?_⟩) (by assumption) ?_
            · intro w hSw
              go_simp
            simp only [Act.put, List.setIfInBounds_toArray, List.set_cons_zero, List.set_cons_succ]
            refine wpAnyH_take (i := 28) (v := .bool false) (by simp only [List.getElem?_toArray, List.getElem?_cons_zero, List.getElem?_cons_succ]; rfl) (by kernel_rfl) (by kernel_rfl) (by kernel_rfl) (by exact fun _ _ _ h => h) (Or.inl ⟨by rfl, ?_⟩) (by assumption) ?_
            · intro w hSw
              go_simp
            simp only [Act.put, List.setIfInBounds_toArray, List.set_cons_zero, List.set_cons_succ]
            refine wpAnyH_take (i := 29) (v := .bool false) (by simp only [List.getElem?_toArray, List.getElem?_cons_zero, List.getElem?_cons_succ]; rfl) (by kernel_rfl) (by kernel_rfl) (by kernel_rfl) (by exact fun _ _ _ h => h) (Or.inl ⟨by rfl, ?_⟩) (by assumption) ?_
            · intro w hSw
              go_simp
            simp only [Act.put, List.setIfInBounds_toArray, List.set_cons_zero, List.set_cons_succ]
            refine wpAnyH_done (by kernel_rfl) ?_ _
            clear hHeld
            go_wp2_with fail
            go_meet
            case rel => exact ⟨rfl, nn7, c7, _, _, ep7, M7, by have := HG.out; omega, by have := HG.out; omega, by have := HG.out; omega, HP7.out, HSOC.out, HB7.out⟩
          · go_simp
            have B5 := HB5.out
            refine hK.out _ _ (HCI.out _ (by first | exact B5 | exact B5.drew)) (fun hHeld => ?_)
            clear hK K0
            refine wpAnyH_ready (rs := [6]) (by kernel_rfl) (by simp) ?_
            refine AllReadyH.cons (by simp only [List.getElem?_toArray, List.getElem?_cons_zero, List.getElem?_cons_succ]; rfl) (fun K0 hK => ?_) AllReadyH.nil
            go_simp
            refine (hnu _).mono ?_
            rintro e wn ⟨rfl, hwn⟩
            subst wn
            go_wp2_with fail
            refine hK.out _ _ (by first | assumption | exact HCI.out _ (by first | exact B5 | exact HBW.out | exact HBW.out.drew)) (fun hHeld => ?_)
            clear hK K0
            refine wpAnyH_take (i := 15) (v := .agg #[.int .i64 1, .int .i64 (z : Int), .slice (some ⟨wr.heap.size, 0, none⟩) 3 3]) (by simp only [List.getElem?_toArray, List.getElem?_cons_zero, List.getElem?_cons_succ]; rfl) (by kernel_rfl) (by kernel_rfl) (by kernel_rfl) (by exact fun _ _ _ h => h) (Or.inl ⟨by rfl, ?_⟩) (by assumption) ?_
            · intro w hSw
              go_simp
            simp only [Act.put, List.setIfInBounds_toArray, List.set_cons_zero, List.set_cons_succ]
            refine wpAnyH_ready (rs := [16]) (by kernel_rfl) (by simp) ?_
            refine AllReadyH.cons (by simp only [List.getElem?_toArray, List.getElem?_cons_zero, List.getElem?_cons_succ]; rfl) (fun K0 hK => ?_) AllReadyH.nil
            go_simp
            refine (HT1.out _ (by first | exact Below.refl _ _ | exact (Below.refl _ _).drew)).mono ?_
            rintro e w6 ⟨rfl, ⟨M6, P6⟩, b6⟩
            have B6 := HB5.out.trans b6
            have HP6 := hid P6
            have HB6 := hid B6
            go_wp2_with fail
            refine hK.out _ _ (HCI.out _ B6) (fun hHeld => ?_)
            clear hK K0 P6 b6
            refine wpAnyH_take (i := 17) (v := .bool false) (by simp only [List.getElem?_toArray, List.getElem?_cons_zero, List.getElem?_cons_succ]; rfl) (by kernel_rfl) (by kernel_rfl) (by kernel_rfl) (by exact fun _ _ _ h => h) (Or.inl ⟨by rfl, ?_⟩) (by assumption) ?_
            · intro w hSw
              go_simp
            simp only [Act.put, List.setIfInBounds_toArray, List.set_cons_zero, List.set_cons_succ]
            refine wpAnyH_take (i := 18) (v := .bool false) (by simp only [List.getElem?_toArray, List.getElem?_cons_zero, List.getElem?_cons_succ]; rfl) (by kernel_rfl) (by kernel_rfl) (by kernel_rfl) (by exact fun _ _ _ h => h) (Or.inl ⟨by rfl, ?_⟩) (by assumption) ?_
            · intro w hSw
              go_simp
            simp only [Act.put, List.setIfInBounds_toArray, List.set_cons_zero, List.set_cons_succ]
            refine wpAnyH_take (i := 19) (v := .int .i64 (i : Int)) (by simp only [List.getElem?_toArray, List.getElem?_cons_zero, List.getElem?_cons_succ]; rfl) (by kernel_rfl) (by kernel_rfl) (by kernel_rfl) (by exact fun _ _ _ h => h) (Or.inl ⟨by rfl, ?_⟩) (by assumption) ?_
            · intro w hSw
              go_simp
            simp only [Act.put, List.setIfInBounds_toArray, List.set_cons_zero, List.set_cons_succ]
            refine wpAnyH_take (i := 20) (v := .int .i64 ((i : Int) % 9)) (by simp only [List.getElem?_toArray, List.getElem?_cons_zero, List.getElem?_cons_succ]; rfl) (by kernel_rfl) (by kernel_rfl) (by kernel_rfl) (by exact fun _ _ _ h => h) (Or.inl ⟨by rfl, ?_⟩) (by assumption) ?_
            · intro w hSw
              go_simp
            simp only [Act.put, List.setIfInBounds_toArray, List.set_cons_zero, List.set_cons_succ]
            refine wpAnyH_take (i := 21) (v := .bool true) (by simp only [List.getElem?_toArray, List.getElem?_cons_zero, List.getElem?_cons_succ]; rfl) (by kernel_rfl) (by kernel_rfl) (by kernel_rfl) (by exact fun _ _ _ h => h) (Or.inl ⟨by rfl, ?_⟩) (by assumption) ?_
            · intro w hSw
              go_simp
            simp only [Act.put, List.setIfInBounds_toArray, List.set_cons_zero, List.set_cons_succ]
            refine wpAnyH_take (i := 22) (v := .bool true) (by simp only [List.getElem?_toArray, List.getElem?_cons_zero, List.getElem?_cons_succ]; rfl) (by kernel_rfl) (by kernel_rfl) (by kernel_rfl) (by exact fun _ _ _ h => h) (Or.inl ⟨by rfl, ?_⟩) (by assumption) ?_
            · intro w hSw
              go_simp
            simp only [Act.put, List.setIfInBounds_toArray, List.set_cons_zero, List.set_cons_succ]
            refine wpAnyH_take (i := 23) (v := ptr s) (by simp only [List.getElem?_toArray, List.getElem?_cons_zero, List.getElem?_cons_succ]; rfl) (by kernel_rfl) (by kernel_rfl) (by kernel_rfl) (by exact fun _ _ _ h => h) (Or.inl ⟨by rfl, ?_⟩) (by assumption) ?_
            · intro w hSw
              go_simp
            simp only [Act.put, List.setIfInBounds_toArray, List.set_cons_zero, List.set_cons_succ]
            refine wpAnyH_take (i := 24) (v := ptr x) (by simp only [List.getElem?_toArray, List.getElem?_cons_zero, List.getElem?_cons_succ]; rfl) (by kernel_rfl) (by kernel_rfl) (by kernel_rfl) (by exact fun _ _ _ h => h) (Or.inl ⟨by rfl, ?_⟩) (by assumption) ?_
            · intro w hSw
              go_simp
            simp only [Act.put, List.setIfInBounds_toArray, List.set_cons_zero, List.set_cons_succ]
            refine wpAnyH_take (i := 25) (v := .agg #[.int .i64 3, .int .i64 0, .slice none 0 0]) (by simp only [List.getElem?_toArray, List.getElem?_cons_zero, List.getElem?_cons_succ]; rfl) (by kernel_rfl) (by kernel_rfl) (by kernel_rfl) (by exact fun _ _ _ h => h) (Or.inl ⟨by rfl, ?_⟩) (by assumption) ?_
            · intro w hSw
              go_simp
            simp only [Act.put, List.setIfInBounds_toArray, List.set_cons_zero, List.set_cons_succ]
            refine wpAnyH_ready (rs := [26]) (by kernel_rfl) (by simp) ?_
            refine AllReadyH.cons (by simp only [List.getElem?_toArray, List.getElem?_cons_zero, List.getElem?_cons_succ]; rfl) (fun K0 hK => ?_) AllReadyH.nil
            go_simp
            refine (HTC.out w6 M6 HP6.out).mono ?_
            rintro e w7 ⟨rfl, ⟨nn7, c7, ep7, M7, g1, g2, g3, P7⟩, b7⟩
            have B7 := HB6.out.trans b7
            have HP7 := hid P7
            have HB7 := hid B7
            have HG := hid (And.intro g1 (And.intro g2 g3))
            go_wp2_with fail
            refine hK.out _ _ (HCI.out _ B7) (fun hHeld => ?_)
            clear hK K0 P7 b7 g1 g2 g3
            refine wpAnyH_take (i := 27) (v := .bool false) (by simp only [List.getElem?_toArray, List.getElem?_cons_zero, List.getElem?_cons_succ]; rfl) (by kernel_rfl) (by kernel_rfl) (by kernel_rfl) (by exact fun _ _ _ h => h) (Or.inl ⟨by rfl, ?_⟩) (by assumption) ?_
            · intro w hSw
              go_simp
            simp only [Act.put, List.setIfInBounds_toArray, List.set_cons_zero, List.set_cons_succ]
            refine wpAnyH_take (i := 28) (v := .bool false) (by simp only [List.getElem?_toArray, List.getElem?_cons_zero, List.getElem?_cons_succ]; rfl) (by kernel_rfl) (by kernel_rfl) (by kernel_rfl) (by exact fun _ _ _ h => h) (Or.inl ⟨by rfl, ?_⟩) (by assumption) ?_
            · intro w hSw
              go_simp
            simp only [Act.put, List.setIfInBounds_toArray, List.set_cons_zero, List.set_cons_succ]
            refine wpAnyH_take (i := 29) (v := .bool false) (by simp only [List.getElem?_toArray, List.getElem?_cons_zero, List.getElem?_cons_succ]; rfl) (by kernel_rfl) (by kernel_rfl) (by kernel_rfl) (by exact fun _ _ _ h => h) (Or.inl ⟨by rfl, ?_⟩) (by assumption) ?_
            · intro w hSw
              go_simp
            simp only [Act.put, List.setIfInBounds_toArray, List.set_cons_zero, List.set_cons_succ]
            refine wpAnyH_done (by kernel_rfl) ?_ _
            clear hHeld
            go_wp2_with fail
            go_meet
            case rel => exact ⟨rfl, nn7, c7, _, _, ep7, M7, by have := HG.out; omega, by have := HG.out; omega, by have := HG.out; omega, HP7.out, HSOC.out, HB7.out⟩
        · have h8b : ((i : Int) % 9 == 8) = false := by rw [beq_eq_false_iff_ne]; omega
          clear h8
          refine wp_region_held_drew (S := fun w' => w'.cell? ⟨ab, ao + i, none⟩ = some (.int .i64 zq)) (by kernel_rfl) hcell (fun hHeld => ?_)
          refine wpAnyH_take (i := 0) (v := ptr s) (by simp only [List.getElem?_toArray, List.getElem?_cons_zero]; rfl) (by kernel_rfl) (by kernel_rfl) (by kernel_rfl) (by exact fun _ _ _ h => h) (Or.inl ⟨by rfl, ?_⟩) (by assumption) ?_
          · intro w hSw
            go_simp
          simp only [Act.put, List.setIfInBounds_toArray, List.set_cons_zero, List.set_cons_succ]
          refine wpAnyH_take (i := 1) (v := ptr x) (by simp only [List.getElem?_toArray, List.getElem?_cons_zero, List.getElem?_cons_succ]; rfl) (by kernel_rfl) (by kernel_rfl) (by kernel_rfl) (by exact fun _ _ _ h => h) (Or.inl ⟨by rfl, ?_⟩) (by assumption) ?_
          · intro w hSw
            go_simp
          simp only [Act.put, List.setIfInBounds_toArray, List.set_cons_zero, List.set_cons_succ]
          refine wpAnyH_take (i := 2) (v := .slice (some ⟨ab, ao, none⟩) len0 cap0) (by simp only [List.getElem?_toArray, List.getElem?_cons_zero, List.getElem?_cons_succ]; rfl) (by kernel_rfl) (by kernel_rfl) (by kernel_rfl) (by exact fun _ _ _ h => h) (Or.inl ⟨by rfl, ?_⟩) (by assumption) ?_
          · intro w hSw
            go_simp
          simp only [Act.put, List.setIfInBounds_toArray, List.set_cons_zero, List.set_cons_succ]
          refine wpAnyH_take (i := 3) (v := .int .i64 (i : Int)) (by simp only [List.getElem?_toArray, List.getElem?_cons_zero, List.getElem?_cons_succ]; rfl) (by kernel_rfl) (by kernel_rfl) (by kernel_rfl) (by exact fun _ _ _ h => h) (Or.inl ⟨by rfl, ?_⟩) (by assumption) ?_
          · intro w hSw
            go_simp
          simp only [Act.put, List.setIfInBounds_toArray, List.set_cons_zero, List.set_cons_succ]
          refine wpAnyH_take (i := 4) (v := .pointer (some ⟨ab, ao + i, none⟩)) (by simp only [List.getElem?_toArray, List.getElem?_cons_zero, List.getElem?_cons_succ]; rfl) (by kernel_rfl) (by kernel_rfl) (by kernel_rfl) (by exact fun _ _ _ h => h) (Or.inl ⟨by rfl, ?_⟩) (by assumption) ?_
          · intro w hSw
            go_simp
          simp only [Act.put, List.setIfInBounds_toArray, List.set_cons_zero, List.set_cons_succ]
          refine wpAnyH_take (i := 5) (v := .int .i64 zq) (by simp only [List.getElem?_toArray, List.getElem?_cons_zero, List.getElem?_cons_succ]; rfl) (by kernel_rfl) (by kernel_rfl) (by kernel_rfl) (by exact fun _ _ _ h => h) (Or.inl ⟨by rfl, ?_⟩) (by assumption) ?_
          · intro w hSw
            go_simp
          simp only [Act.put, List.setIfInBounds_toArray, List.set_cons_zero, List.set_cons_succ]
          refine wpAnyH_take (i := 7) (v := .int .i64 (i : Int)) (by simp only [List.getElem?_toArray, List.getElem?_cons_zero, List.getElem?_cons_succ]; rfl) (by kernel_rfl) (by kernel_rfl) (by kernel_rfl) (by exact fun _ _ _ h => h) (Or.inl ⟨by rfl, ?_⟩) (by assumption) ?_
          · intro w hSw
            go_simp
          simp only [Act.put, List.setIfInBounds_toArray, List.set_cons_zero, List.set_cons_succ]
          refine wpAnyH_take (i := 8) (v := .int .u8 (i : Int)) (by simp only [List.getElem?_toArray, List.getElem?_cons_zero, List.getElem?_cons_succ]; rfl) (by kernel_rfl) (by kernel_rfl) (by kernel_rfl) (by exact fun _ _ _ h => h) (Or.inl ⟨by rfl, ?_⟩) (by assumption) ?_
          · intro w hSw
            go_simp
          simp only [Act.put, List.setIfInBounds_toArray, List.set_cons_zero, List.set_cons_succ]
          refine wpAnyH_take (i := 9) (v := .slice (some ⟨ab, ao, none⟩) len0 cap0) (by simp only [List.getElem?_toArray, List.getElem?_cons_zero, List.getElem?_cons_succ]; rfl) (by kernel_rfl) (by kernel_rfl) (by kernel_rfl) (by exact fun _ _ _ h => h) (Or.inl ⟨by rfl, ?_⟩) (by assumption) ?_
          · intro w hSw
            go_simp
          simp only [Act.put, List.setIfInBounds_toArray, List.set_cons_zero, List.set_cons_succ]
          refine wpAnyH_take (i := 10) (v := .int .i64 (i : Int)) (by simp only [List.getElem?_toArray, List.getElem?_cons_zero, List.getElem?_cons_succ]; rfl) (by kernel_rfl) (by kernel_rfl) (by kernel_rfl) (by exact fun _ _ _ h => h) (Or.inl ⟨by rfl, ?_⟩) (by assumption) ?_
          · intro w hSw
            go_simp
          simp only [Act.put, List.setIfInBounds_toArray, List.set_cons_zero, List.set_cons_succ]
          refine wpAnyH_take (i := 11) (v := .pointer (some ⟨ab, ao + i, none⟩)) (by simp only [List.getElem?_toArray, List.getElem?_cons_zero, List.getElem?_cons_succ]; rfl) (by kernel_rfl) (by kernel_rfl) (by kernel_rfl) (by exact fun _ _ _ h => h) (Or.inl ⟨by rfl, ?_⟩) (by assumption) ?_
          · intro w hSw
            go_simp
          simp only [Act.put, List.setIfInBounds_toArray, List.set_cons_zero, List.set_cons_succ]
          refine wpAnyH_take (i := 12) (v := .int .i64 zq) (by simp only [List.getElem?_toArray, List.getElem?_cons_zero, List.getElem?_cons_succ]; rfl) (by kernel_rfl) (by kernel_rfl) (by kernel_rfl) (by exact fun _ _ _ h => h) (Or.inl ⟨by rfl, ?_⟩) (by assumption) ?_
          · intro w hSw
            go_simp
          simp only [Act.put, List.setIfInBounds_toArray, List.set_cons_zero, List.set_cons_succ]
          refine wpAnyH_take (i := 13) (v := .int .u8 (bq : Int)) (by simp only [List.getElem?_toArray, List.getElem?_cons_zero, List.getElem?_cons_succ]; rfl) (by kernel_rfl) (by kernel_rfl) (by kernel_rfl) (by exact fun _ _ _ h => h) (Or.inl ⟨by rfl, ?_⟩) (by assumption) ?_
          · intro w hSw
            go_simp
          simp only [Act.put, List.setIfInBounds_toArray, List.set_cons_zero, List.set_cons_succ]
          refine wpAnyH_ready (rs := [6, 14]) (by kernel_rfl) (by simp) ?_
          refine AllReadyH.cons (by simp only [List.getElem?_toArray, List.getElem?_cons_zero, List.getElem?_cons_succ]; rfl) (fun K0 hK => ?_) (AllReadyH.cons (by simp only [List.getElem?_toArray, List.getElem?_cons_zero, List.getElem?_cons_succ]; rfl) (fun K0 hK => ?_) AllReadyH.nil)
          · go_simp
            refine (hnu _).mono ?_
            rintro e wn ⟨rfl, hwn⟩
            subst wn
            go_wp2_with fail
            refine hK.out _ _ (by first | assumption | exact HCI.out _ (by first | exact B5 | exact HBW.out | exact HBW.out.drew)) (fun hHeld => ?_)
            clear hK K0
            refine wpAnyH_ready (rs := [14]) (by kernel_rfl) (by simp) ?_
            refine AllReadyH.cons (by simp only [List.getElem?_toArray, List.getElem?_cons_zero, List.getElem?_cons_succ]; rfl) (fun K0 hK => ?_) AllReadyH.nil
            go_simp
            have B5 := HB5.out
            refine hK.out _ _ (HCI.out _ (by first | exact B5 | exact B5.drew)) (fun hHeld => ?_)
            clear hK K0
            refine wpAnyH_take (i := 15) (v := .agg #[.int .i64 1, .int .i64 (z : Int), .slice (some ⟨wr.heap.size, 0, none⟩) 3 3]) (by simp only [List.getElem?_toArray, List.getElem?_cons_zero, List.getElem?_cons_succ]; rfl) (by kernel_rfl) (by kernel_rfl) (by kernel_rfl) (by exact fun _ _ _ h => h) (Or.inl ⟨by rfl, ?_⟩) (by assumption) ?_
            · intro w hSw
              go_simp
            simp only [Act.put, List.setIfInBounds_toArray, List.set_cons_zero, List.set_cons_succ]
            refine wpAnyH_ready (rs := [16]) (by kernel_rfl) (by simp) ?_
            refine AllReadyH.cons (by simp only [List.getElem?_toArray, List.getElem?_cons_zero, List.getElem?_cons_succ]; rfl) (fun K0 hK => ?_) AllReadyH.nil
            go_simp
            refine (HT1.out _ (by first | exact Below.refl _ _ | exact (Below.refl _ _).drew)).mono ?_
            rintro e w6 ⟨rfl, ⟨M6, P6⟩, b6⟩
            have B6 := HB5.out.trans b6
            have HP6 := hid P6
            have HB6 := hid B6
            go_wp2_with fail
            refine hK.out _ _ (HCI.out _ B6) (fun hHeld => ?_)
            clear hK K0 P6 b6
            refine wpAnyH_take (i := 17) (v := .bool false) (by simp only [List.getElem?_toArray, List.getElem?_cons_zero, List.getElem?_cons_succ]; rfl) (by kernel_rfl) (by kernel_rfl) (by kernel_rfl) (by exact fun _ _ _ h => h) (Or.inl ⟨by rfl, ?_⟩) (by assumption) ?_
            · intro w hSw
              go_simp
            simp only [Act.put, List.setIfInBounds_toArray, List.set_cons_zero, List.set_cons_succ]
            refine wpAnyH_take (i := 18) (v := .bool false) (by simp only [List.getElem?_toArray, List.getElem?_cons_zero, List.getElem?_cons_succ]; rfl) (by kernel_rfl) (by kernel_rfl) (by kernel_rfl) (by exact fun _ _ _ h => h) (Or.inl ⟨by rfl, ?_⟩) (by assumption) ?_
            · intro w hSw
              go_simp
            simp only [Act.put, List.setIfInBounds_toArray, List.set_cons_zero, List.set_cons_succ]
            refine wpAnyH_take (i := 19) (v := .int .i64 (i : Int)) (by simp only [List.getElem?_toArray, List.getElem?_cons_zero, List.getElem?_cons_succ]; rfl) (by kernel_rfl) (by kernel_rfl) (by kernel_rfl) (by exact fun _ _ _ h => h) (Or.inl ⟨by rfl, ?_⟩) (by assumption) ?_
            · intro w hSw
              go_simp
            simp only [Act.put, List.setIfInBounds_toArray, List.set_cons_zero, List.set_cons_succ]
            refine wpAnyH_take (i := 20) (v := .int .i64 ((i : Int) % 9)) (by simp only [List.getElem?_toArray, List.getElem?_cons_zero, List.getElem?_cons_succ]; rfl) (by kernel_rfl) (by kernel_rfl) (by kernel_rfl) (by exact fun _ _ _ h => h) (Or.inl ⟨by rfl, ?_⟩) (by assumption) ?_
            · intro w hSw
              go_simp
            simp only [Act.put, List.setIfInBounds_toArray, List.set_cons_zero, List.set_cons_succ]
            refine wpAnyH_take (i := 21) (v := .bool false) (by simp only [List.getElem?_toArray, List.getElem?_cons_zero, List.getElem?_cons_succ]; rfl) (by kernel_rfl) (by kernel_rfl) (by kernel_rfl) (by exact fun _ _ _ h => h) (Or.inl ⟨by rfl, ?_⟩) (by assumption) ?_
            · intro w hSw
              go_simp
            simp only [Act.put, List.setIfInBounds_toArray, List.set_cons_zero, List.set_cons_succ]
            refine wpAnyH_take (i := 22) (v := .bool false) (by simp only [List.getElem?_toArray, List.getElem?_cons_zero, List.getElem?_cons_succ]; rfl) (by kernel_rfl) (by kernel_rfl) (by kernel_rfl) (by exact fun _ _ _ h => h) (Or.inl ⟨by rfl, ?_⟩) (by assumption) ?_
            · intro w hSw
              go_simp
            simp only [Act.put, List.setIfInBounds_toArray, List.set_cons_zero, List.set_cons_succ]
            refine wpAnyH_take (i := 23) (v := undef) (by simp only [List.getElem?_toArray, List.getElem?_cons_zero, List.getElem?_cons_succ]; rfl) (by kernel_rfl) (by kernel_rfl) (by kernel_rfl) (by exact fun _ _ _ h => h) (Or.inr ⟨by rfl, rfl⟩) (by assumption) ?_
            simp only [Act.put, List.setIfInBounds_toArray, List.set_cons_zero, List.set_cons_succ]
            refine wpAnyH_take (i := 24) (v := undef) (by simp only [List.getElem?_toArray, List.getElem?_cons_zero, List.getElem?_cons_succ]; rfl) (by kernel_rfl) (by kernel_rfl) (by kernel_rfl) (by exact fun _ _ _ h => h) (Or.inr ⟨by rfl, rfl⟩) (by assumption) ?_
            simp only [Act.put, List.setIfInBounds_toArray, List.set_cons_zero, List.set_cons_succ]
            refine wpAnyH_take (i := 25) (v := undef) (by simp only [List.getElem?_toArray, List.getElem?_cons_zero, List.getElem?_cons_succ]; rfl) (by kernel_rfl) (by kernel_rfl) (by kernel_rfl) (by exact fun _ _ _ h => h) (Or.inr ⟨by rfl, rfl⟩) (by assumption) ?_
            simp only [Act.put, List.setIfInBounds_toArray, List.set_cons_zero, List.set_cons_succ]
            refine wpAnyH_take (i := 26) (v := undef) (by simp only [List.getElem?_toArray, List.getElem?_cons_zero, List.getElem?_cons_succ]; rfl) (by kernel_rfl) (by kernel_rfl) (by kernel_rfl) (by exact fun _ _ _ h => h) (Or.inr ⟨by rfl, rfl⟩) (by assumption) ?_
            simp only [Act.put, List.setIfInBounds_toArray, List.set_cons_zero, List.set_cons_succ]
            refine wpAnyH_take (i := 27) (v := undef) (by simp only [List.getElem?_toArray, List.getElem?_cons_zero, List.getElem?_cons_succ]; rfl) (by kernel_rfl) (by kernel_rfl) (by kernel_rfl) (by exact fun _ _ _ h => h) (Or.inr ⟨by rfl, rfl⟩) (by assumption) ?_
            simp only [Act.put, List.setIfInBounds_toArray, List.set_cons_zero, List.set_cons_succ]
            refine wpAnyH_take (i := 28) (v := .bool false) (by simp only [List.getElem?_toArray, List.getElem?_cons_zero, List.getElem?_cons_succ]; rfl) (by kernel_rfl) (by kernel_rfl) (by kernel_rfl) (by exact fun _ _ _ h => h) (Or.inl ⟨by rfl, ?_⟩) (by assumption) ?_
            · intro w hSw
              go_simp
            simp only [Act.put, List.setIfInBounds_toArray, List.set_cons_zero, List.set_cons_succ]
            refine wpAnyH_take (i := 29) (v := .bool false) (by simp only [List.getElem?_toArray, List.getElem?_cons_zero, List.getElem?_cons_succ]; rfl) (by kernel_rfl) (by kernel_rfl) (by kernel_rfl) (by exact fun _ _ _ h => h) (Or.inl ⟨by rfl, ?_⟩) (by assumption) ?_
            · intro w hSw
              go_simp
            simp only [Act.put, List.setIfInBounds_toArray, List.set_cons_zero, List.set_cons_succ]
            refine wpAnyH_done (by kernel_rfl) ?_ _
            clear hHeld
            go_wp2_with fail
            go_meet
            case rel => exact ⟨rfl, nn + 1, c, _, _, ep, M6, by omega, by omega, by omega, HP6.out, HSO1.out, HB6.out⟩
          · go_simp
            have B5 := HB5.out
            refine hK.out _ _ (HCI.out _ (by first | exact B5 | exact B5.drew)) (fun hHeld => ?_)
            clear hK K0
            refine wpAnyH_ready (rs := [6]) (by kernel_rfl) (by simp) ?_
            refine AllReadyH.cons (by simp only [List.getElem?_toArray, List.getElem?_cons_zero, List.getElem?_cons_succ]; rfl) (fun K0 hK => ?_) AllReadyH.nil
            go_simp
            refine (hnu _).mono ?_
            rintro e wn ⟨rfl, hwn⟩
            subst wn
            go_wp2_with fail
            refine hK.out _ _ (by first | assumption | exact HCI.out _ (by first | exact B5 | exact HBW.out | exact HBW.out.drew)) (fun hHeld => ?_)
            clear hK K0
            refine wpAnyH_take (i := 15) (v := .agg #[.int .i64 1, .int .i64 (z : Int), .slice (some ⟨wr.heap.size, 0, none⟩) 3 3]) (by simp only [List.getElem?_toArray, List.getElem?_cons_zero, List.getElem?_cons_succ]; rfl) (by kernel_rfl) (by kernel_rfl) (by kernel_rfl) (by exact fun _ _ _ h => h) (Or.inl ⟨by rfl, ?_⟩) (by assumption) ?_
            · intro w hSw
              go_simp
            simp only [Act.put, List.setIfInBounds_toArray, List.set_cons_zero, List.set_cons_succ]
            refine wpAnyH_ready (rs := [16]) (by kernel_rfl) (by simp) ?_
            refine AllReadyH.cons (by simp only [List.getElem?_toArray, List.getElem?_cons_zero, List.getElem?_cons_succ]; rfl) (fun K0 hK => ?_) AllReadyH.nil
            go_simp
            refine (HT1.out _ (by first | exact Below.refl _ _ | exact (Below.refl _ _).drew)).mono ?_
            rintro e w6 ⟨rfl, ⟨M6, P6⟩, b6⟩
            have B6 := HB5.out.trans b6
            have HP6 := hid P6
            have HB6 := hid B6
            go_wp2_with fail
            refine hK.out _ _ (HCI.out _ B6) (fun hHeld => ?_)
            clear hK K0 P6 b6
            refine wpAnyH_take (i := 17) (v := .bool false) (by simp only [List.getElem?_toArray, List.getElem?_cons_zero, List.getElem?_cons_succ]; rfl) (by kernel_rfl) (by kernel_rfl) (by kernel_rfl) (by exact fun _ _ _ h => h) (Or.inl ⟨by rfl, ?_⟩) (by assumption) ?_
            · intro w hSw
              go_simp
            simp only [Act.put, List.setIfInBounds_toArray, List.set_cons_zero, List.set_cons_succ]
            refine wpAnyH_take (i := 18) (v := .bool false) (by simp only [List.getElem?_toArray, List.getElem?_cons_zero, List.getElem?_cons_succ]; rfl) (by kernel_rfl) (by kernel_rfl) (by kernel_rfl) (by exact fun _ _ _ h => h) (Or.inl ⟨by rfl, ?_⟩) (by assumption) ?_
            · intro w hSw
              go_simp
            simp only [Act.put, List.setIfInBounds_toArray, List.set_cons_zero, List.set_cons_succ]
            refine wpAnyH_take (i := 19) (v := .int .i64 (i : Int)) (by simp only [List.getElem?_toArray, List.getElem?_cons_zero, List.getElem?_cons_succ]; rfl) (by kernel_rfl) (by kernel_rfl) (by kernel_rfl) (by exact fun _ _ _ h => h) (Or.inl ⟨by rfl, ?_⟩) (by assumption) ?_
            · intro w hSw
              go_simp
            simp only [Act.put, List.setIfInBounds_toArray, List.set_cons_zero, List.set_cons_succ]
            refine wpAnyH_take (i := 20) (v := .int .i64 ((i : Int) % 9)) (by simp only [List.getElem?_toArray, List.getElem?_cons_zero, List.getElem?_cons_succ]; rfl) (by kernel_rfl) (by kernel_rfl) (by kernel_rfl) (by exact fun _ _ _ h => h) (Or.inl ⟨by rfl, ?_⟩) (by assumption) ?_
            · intro w hSw
              go_simp
            simp only [Act.put, List.setIfInBounds_toArray, List.set_cons_zero, List.set_cons_succ]
            refine wpAnyH_take (i := 21) (v := .bool false) (by simp only [List.getElem?_toArray, List.getElem?_cons_zero, List.getElem?_cons_succ]; rfl) (by kernel_rfl) (by kernel_rfl) (by kernel_rfl) (by exact fun _ _ _ h => h) (Or.inl ⟨by rfl, ?_⟩) (by assumption) ?_
            · intro w hSw
              go_simp
            simp only [Act.put, List.setIfInBounds_toArray, List.set_cons_zero, List.set_cons_succ]
            refine wpAnyH_take (i := 22) (v := .bool false) (by simp only [List.getElem?_toArray, List.getElem?_cons_zero, List.getElem?_cons_succ]; rfl) (by kernel_rfl) (by kernel_rfl) (by kernel_rfl) (by exact fun _ _ _ h => h) (Or.inl ⟨by rfl, ?_⟩) (by assumption) ?_
            · intro w hSw
              go_simp
            simp only [Act.put, List.setIfInBounds_toArray, List.set_cons_zero, List.set_cons_succ]
            refine wpAnyH_take (i := 23) (v := undef) (by simp only [List.getElem?_toArray, List.getElem?_cons_zero, List.getElem?_cons_succ]; rfl) (by kernel_rfl) (by kernel_rfl) (by kernel_rfl) (by exact fun _ _ _ h => h) (Or.inr ⟨by rfl, rfl⟩) (by assumption) ?_
            simp only [Act.put, List.setIfInBounds_toArray, List.set_cons_zero, List.set_cons_succ]
            refine wpAnyH_take (i := 24) (v := undef) (by simp only [List.getElem?_toArray, List.getElem?_cons_zero, List.getElem?_cons_succ]; rfl) (by kernel_rfl) (by kernel_rfl) (by kernel_rfl) (by exact fun _ _ _ h => h) (Or.inr ⟨by rfl, rfl⟩) (by assumption) ?_
            simp only [Act.put, List.setIfInBounds_toArray, List.set_cons_zero, List.set_cons_succ]
            refine wpAnyH_take (i := 25) (v := undef) (by simp only [List.getElem?_toArray, List.getElem?_cons_zero, List.getElem?_cons_succ]; rfl) (by kernel_rfl) (by kernel_rfl) (by kernel_rfl) (by exact fun _ _ _ h => h) (Or.inr ⟨by rfl, rfl⟩) (by assumption) ?_
            simp only [Act.put, List.setIfInBounds_toArray, List.set_cons_zero, List.set_cons_succ]
            refine wpAnyH_take (i := 26) (v := undef) (by simp only [List.getElem?_toArray, List.getElem?_cons_zero, List.getElem?_cons_succ]; rfl) (by kernel_rfl) (by kernel_rfl) (by kernel_rfl) (by exact fun _ _ _ h => h) (Or.inr ⟨by rfl, rfl⟩) (by assumption) ?_
            simp only [Act.put, List.setIfInBounds_toArray, List.set_cons_zero, List.set_cons_succ]
            refine wpAnyH_take (i := 27) (v := undef) (by simp only [List.getElem?_toArray, List.getElem?_cons_zero, List.getElem?_cons_succ]; rfl) (by kernel_rfl) (by kernel_rfl) (by kernel_rfl) (by exact fun _ _ _ h => h) (Or.inr ⟨by rfl, rfl⟩) (by assumption) ?_
            simp only [Act.put, List.setIfInBounds_toArray, List.set_cons_zero, List.set_cons_succ]
            refine wpAnyH_take (i := 28) (v := .bool false) (by simp only [List.getElem?_toArray, List.getElem?_cons_zero, List.getElem?_cons_succ]; rfl) (by kernel_rfl) (by kernel_rfl) (by kernel_rfl) (by exact fun _ _ _ h => h) (Or.inl ⟨by rfl, ?_⟩) (by assumption) ?_
            · intro w hSw
              go_simp
            simp only [Act.put, List.setIfInBounds_toArray, List.set_cons_zero, List.set_cons_succ]
            refine wpAnyH_take (i := 29) (v := .bool false) (by simp only [List.getElem?_toArray, List.getElem?_cons_zero, List.getElem?_cons_succ]; rfl) (by kernel_rfl) (by kernel_rfl) (by kernel_rfl) (by exact fun _ _ _ h => h) (Or.inl ⟨by rfl, ?_⟩) (by assumption) ?_
            · intro w hSw
              go_simp
            simp only [Act.put, List.setIfInBounds_toArray, List.set_cons_zero, List.set_cons_succ]
            refine wpAnyH_done (by kernel_rfl) ?_ _
            clear hHeld
            go_wp2_with fail
            go_meet
            case rel => exact ⟨rfl, nn + 1, c, _, _, ep, M6, by omega, by omega, by omega, HP6.out, HSO1.out, HB6.out⟩
      --R13E
      case rest =>
        obtain ⟨rfl, nn', c', V', N', ep', M', e1, e2, e3, P', so', b'⟩ := hcut
        have HE := hid (And.intro P' (And.intro so' b'))
        clear P' so' b' HT1 HTC
        go_wp2_with fail
        go_roundw
        case rel => exact ⟨i + 1, by omega, by go_num, nn', c', V', N', ep', M', e1, e2, e3, HE.out.1, fun _ => HE.out.2.1, HE.out.2.2⟩
        case measure => simp [RowKit.intOf]; omega
--DEV1
    · obtain rfl : i = len0 := by omega
      have htc := toldC_w [x] bs w1.heap.size 400 nn c s d x V N ep M 0 none 0 0 wr HP.out (by omega) (by omega) (by omega) (by decide)
      have hps := HSO.out (by omega)
      have HPS := hid hps
      clear hps
      go_wp2_with fail
      refine htc.mono ?_
      rintro e w5 ⟨rfl, ⟨nn5, c5, ep5, M5, g1, g2, g3, P5⟩, b5⟩
      have HB5 := hid (HBW.out.trans b5)
      have hep5 := P5.st.ep_pos HPS.out
      have hbd5 : nn5 ≤ 100000 ∧ c5 ≤ 30000 ∧ ep5 ≤ 100 := by omega
      obtain ⟨C, m, D, S, hLA, hLF⟩ := P5.st.left hep5
      rw [show GeoW.half 400 = 100 by decide] at hLF
      have hcd := P5.md
      have hrel := P5.rel
      have hxlo := P5.lox
      generalize view N V = V5 at *
      clear htc b5 HSO HPS P5 hnn hcc hee
      go_upto_region 18 with fail
      have hIC := InC.made w5
      have hLA6 := hLA.alloc (.cells Tryz.zeroCells73 73)
      have b6 := (Below.refl w5.heap.size w5).alloc (Nat.le_refl _) (.cells Tryz.zeroCells73 73)
      have hM6 := hcd.below b6
      have hz5 := HB5.out.size
      have hx5 := hcd.lt
      have hx0 : w5.heap.size ≠ x := by omega
      have HB6 := hid (HB5.out.trans (b6.mono hz5))
      generalize w5.alloc (.cells Tryz.zeroCells73 73) = w6 at *
      generalize w5.heap.size = y at *
      have HREL := hid hrel
      clear hcd hrel b6 hx5
      go_wp2_with fail
      go_loopw [13] (fun iv wr => ∃ i : Nat, i ≤ len1 ∧ iv = .int .i64 i ∧ ∃ (D : Dv) (dn : Nat → Bool), LameAt [y, x] bs wr w1.heap.size 400 (nn5 + 3 * i) c5 d V5 C ep5 0 m D S ∧ PgW.Left 100 S C D dn ∧ InC wr y dn ∧ MdAt wr x M5 ∧ Below w1.heap.size w1 wr) (fun iv _ => len1 - (RowKit.intOf iv).toNat)
      case atStart => exact ⟨0, by omega, rfl, D, _, hLA6, hLF, hIC, hM6, HB6.out⟩
      case round =>
        clear hLA6 hLF hIC hM6 hLA
        obtain ⟨i, hi, rfl, D, dn, hA, hF, hC, hM, hb⟩ := hrel
        have HA := hid hA
        have HFL := hid hF
        have HC := hid hC
        have HM := hid hM
        have HBW := hid hb
        have hlod := hA.los
        clear hA hF hM hb
        by_cases hlt : i < len1
        · --DEV0
          have hzl : i < z1.length := by rw [HI1.out.len]; exact hlt
          obtain ⟨ab, ao, rfl, hac⟩ := (HI1.out.below HB1.out).at hzl
          have hzf := int_of (HW1.out _ (List.getElem_mem hzl))
          generalize z1[i] = zq at hac hzf
          have hab := World.block_lt_of_cell? _ _ hac
          have HCI := hid (fun (wX : World) (hb : Below w1.heap.size w1 wX) => ((hb.cell (p := ⟨ab, ao + i, none⟩) hab).trans hac : wX.cell? ⟨ab, ao + i, none⟩ = some (.int .i64 zq)))
          have hcell := HCI.out wr HBW.out
          obtain ⟨k, hk⟩ : ∃ k : Nat, zq % 100 = (k : Int) := ⟨(zq % 100).toNat, by omega⟩
          have hk100 : k < 100 := by omega
          have hnu := number_w zq 100 wr (by decide) (by decide) hzf.1 hzf.2
          rw [hk] at hnu
          have hd0 := hC.at_ k hk100
          have hfz := hC.frozen k
          clear hac hk hC
          go_wp2_with fail
          refine hnu.mono ?_
          rintro e wn ⟨rfl, hwn⟩
          subst wn
          clear hnu
          have hkI : ((k : Nat) : Int) < 100 := by omega
          cases hdn : dn k with
          | true =>
            rw [hdn] at hd0
            clear hdn
            go_wp2_with fail
            go_roundw
            case rel => exact ⟨i + 1, by omega, by go_num, D, dn, HA.out.mono (by omega) (Nat.le_refl _) (Nat.le_refl _), HFL.out, HC.out, HM.out, HBW.out⟩
            case measure => simp [RowKit.intOf]; omega
          | false =>
            rw [hdn] at hd0
            have HDN := hid hdn
            clear hdn
            have hty : Turn [y] wr (wr.setCell ⟨y, k, none⟩ (.bool true)) := Turn.setCell wr y k _ (by simp)
            have hbs : Below w1.heap.size wr (wr.setCell ⟨y, k, none⟩ (.bool true)) := (Below.refl _ wr).setCell (by omega) _
            have hA7 := HA.out.set (by simp) hty HC.out.c0 (by omega)
            have hC7 := HC.out.set k hk100 true
            have hM7 : MdAt (wr.setCell ⟨y, k, none⟩ (.bool true)) x M5 := HM.out.keep (hty.block x HM.out.lt (by simpa using Ne.symm hx0)) fun a n c l hl => DevG.nums_turn hl hty fun u hu off z e => by
              rw [List.mem_singleton.1 hu] at e
              exact HC.out.u8 off z e
            have hB7 := HBW.out.trans hbs
            have hcell7 := HCI.out _ hB7
            have HA7 := hid hA7
            have HC7 := hid hC7
            have HM7 := hid hM7
            have HB7 := hid hB7
            clear hA7 hC7 hM7 hB7 hbs hty
            obtain ⟨r, hr1, hr⟩ := and1 (zq.tdiv 300)
            have f1 : IntKind.i64.wrap (100 * (r : Int)) = 100 * (r : Int) := by rw [IntKind.wrap_i64]; omega
            have f2 : IntKind.i64.wrap ((k : Int) + 100 * (r : Int)) = (k : Int) + 100 * (r : Int) := by rw [IntKind.wrap_i64]; omega
            have e1 : ((k : Int) + 100 * (r : Int)) = ((k + 100 * r : Nat) : Int) := by omega
            have HE1 := hid e1
            have hii : k + 100 * r = k ∨ k + 100 * r = k + GeoW.half 400 := by
              rcases (show r = 0 ∨ r = 1 by omega) with rfl | rfl
              · exact .inl rfl
              · exact .inr rfl
            have HII := hid hii
            have HWK := hid (HFL.out.w k hk100 HDN.out)
            clear e1 hii
            by_cases h3 : zq.tmod 3 = 0
            · have h3b : (zq.tmod 3 == 0) = true := by rw [beq_iff_eq]; exact h3
              have hfa := HA7.out.fail (k := k) (i := k + 100 * r) (by omega) (by rw [show GeoW.half 400 = 100 by decide]; exact hk100) HII.out HWK.out
              rw [← HE1.out] at hfa
              clear h3
              go_wp2_with fail
              refine hfa.mono ?_
              rintro e w8 ⟨⟨v8, rfl⟩, A8, b8, kp8⟩
              have HC8 := hid (HC7.out.keep (kp8.blk y (by simp)))
              have HM8 := hid (HM7.out.kp kp8 (by simp))
              have HB8 := hid (HB7.out.trans b8)
              rw [HE1.out] at A8
              have HF8 := hid (HFL.out.but (by decide) (But.fail D ((k + 100 * r : Nat) : Int)) hk100 (by have := HII.out; rw [show GeoW.half 400 = 100 by decide] at this; omega) (by rw [kept_fail]; exact HFL.out.kb _))
              have HA8 := hid A8
              clear A8 b8 kp8 hfa
              go_wp2_with fail
              go_roundw
              case rel => exact ⟨i + 1, by omega, by go_num, _, _, HA8.out.mono (by omega) (Nat.le_refl _) (Nat.le_refl _), HF8.out, HC8.out, HM8.out, HB8.out⟩
              case measure => simp [RowKit.intOf]; omega
            · have h3b : (zq.tmod 3 == 0) = false := by rw [beq_eq_false_iff_ne]; exact h3
              have h7 := tdiv_7 hzf
              have hn7 := fun (w' : World) => number_w (zq.tdiv 7) 253 w' (by decide) (by decide) h7.1 h7.2
              obtain ⟨p, hp⟩ : ∃ p : Nat, zq.tdiv 7 % 253 = (p : Int) := ⟨(zq.tdiv 7 % 253).toNat, by omega⟩
              have hp253 : p ≤ 1000 := by omega
              rw [hp] at hn7
              obtain ⟨t, ht, ht1⟩ := HT.out
              have HSP := hid (fun (wX : World) (hb : Below (wr.setCell ⟨y, k, none⟩ (.bool true)).heap.size (wr.setCell ⟨y, k, none⟩ (.bool true)) wX) => ((HA7.out.on hb).spoil (k := k) (i := k + 100 * r) (by omega) (by rw [show GeoW.half 400 = 100 by decide]; exact hk100) HII.out HWK.out (fun h2 => by rw [show GeoW.half 400 = 100 by decide]; exact HFL.out.sp k h2 HDN.out) (HFL.out.kb _) p t hp253 ht1).mono fun e w' ⟨g1, g2, g3, g4⟩ => (⟨g1, g2, (HC7.out.below hb).keep (g4.blk y (by simp)), (HM7.out.below hb).kp g4 (by simp), (HB7.out.trans (hb.mono HB7.out.size)).trans g3⟩ : (∃ v, e = Ending.returned v) ∧ LameAt [y, x] bs w' w1.heap.size 400 (nn5 + 3 * i + 3) c5 d V5 C ep5 0 m (D.spoil ((k + 100 * r : Nat) : Int) (p : Int) t) S ∧ InC w' y _ ∧ MdAt w' x M5 ∧ Below w1.heap.size w1 w'))
              rw [← HE1.out] at HSP
              have HF8 := hid (HFL.out.but (by decide) (But.spoil D ((k + 100 * r : Nat) : Int) (p : Int) t) hk100 (by have := HII.out; rw [show GeoW.half 400 = 100 by decide] at this; omega) (kept_spoil (HFL.out.kb _) _ _))
              rw [← HE1.out] at HF8
              have g7 : IntKind.i64.wrap (zq.tdiv 7) = zq.tdiv 7 := by rw [IntKind.wrap_i64]; omega
              have h300 := tdiv_300 hzf
              have g300 : IntKind.i64.wrap (zq.tdiv 300) = zq.tdiv 300 := by rw [IntKind.wrap_i64]; omega
              clear h3 hp h7 h300
              go_upto_region 26 with fail
              clear hcell hd0 hcell7 hfz
              generalize wr.setCell ⟨y, k, none⟩ (.bool true) = w7 at *
--R26
              refine wp_region_held_drew (S := fun w' => w'.cell? ⟨ab, ao + i, none⟩ = some (.int .i64 zq)) (by kernel_rfl) (by first | exact HCI.out _ HB7.out | exact HCI.out _ HB7.out.drew) (fun hHeld => ?_)
              refine wpAnyH_take (i := 0) (v := ptr d) (by simp only [List.getElem?_toArray, List.getElem?_cons_zero]; rfl) (by kernel_rfl) (by kernel_rfl) (by kernel_rfl) (by exact fun _ _ _ h => h) (Or.inl ⟨by rfl, ?_⟩) (by assumption) ?_
              · intro w hSw
                go_simp
              simp only [Act.put, List.setIfInBounds_toArray, List.set_cons_zero, List.set_cons_succ]
              refine wpAnyH_take (i := 1) (v := .int .i64 (k : Int)) (by simp only [List.getElem?_toArray, List.getElem?_cons_zero, List.getElem?_cons_succ]; rfl) (by kernel_rfl) (by kernel_rfl) (by kernel_rfl) (by exact fun _ _ _ h => h) (Or.inl ⟨by rfl, ?_⟩) (by assumption) ?_
              · intro w hSw
                go_simp
              simp only [Act.put, List.setIfInBounds_toArray, List.set_cons_zero, List.set_cons_succ]
              refine wpAnyH_take (i := 2) (v := .slice (some ⟨ab, ao, none⟩) len1 cap1) (by simp only [List.getElem?_toArray, List.getElem?_cons_zero, List.getElem?_cons_succ]; rfl) (by kernel_rfl) (by kernel_rfl) (by kernel_rfl) (by exact fun _ _ _ h => h) (Or.inl ⟨by rfl, ?_⟩) (by assumption) ?_
              · intro w hSw
                go_simp
              simp only [Act.put, List.setIfInBounds_toArray, List.set_cons_zero, List.set_cons_succ]
              refine wpAnyH_take (i := 3) (v := .int .i64 (i : Int)) (by simp only [List.getElem?_toArray, List.getElem?_cons_zero, List.getElem?_cons_succ]; rfl) (by kernel_rfl) (by kernel_rfl) (by kernel_rfl) (by exact fun _ _ _ h => h) (Or.inl ⟨by rfl, ?_⟩) (by assumption) ?_
              · intro w hSw
                go_simp
              simp only [Act.put, List.setIfInBounds_toArray, List.set_cons_zero, List.set_cons_succ]
              refine wpAnyH_take (i := 4) (v := .pointer (some ⟨ab, ao + i, none⟩)) (by simp only [List.getElem?_toArray, List.getElem?_cons_zero, List.getElem?_cons_succ]; rfl) (by kernel_rfl) (by kernel_rfl) (by kernel_rfl) (by exact fun _ _ _ h => h) (Or.inl ⟨by rfl, ?_⟩) (by assumption) ?_
              · intro w hSw
                go_simp
              simp only [Act.put, List.setIfInBounds_toArray, List.set_cons_zero, List.set_cons_succ]
              refine wpAnyH_take (i := 5) (v := .int .i64 zq) (by simp only [List.getElem?_toArray, List.getElem?_cons_zero, List.getElem?_cons_succ]; rfl) (by kernel_rfl) (by kernel_rfl) (by kernel_rfl) (by exact fun _ _ _ h => h) (Or.inl ⟨by rfl, ?_⟩) (by assumption) ?_
              · intro w hSw
                go_simp
              simp only [Act.put, List.setIfInBounds_toArray, List.set_cons_zero, List.set_cons_succ]
              refine wpAnyH_take (i := 6) (v := .int .i64 (zq.tdiv 300)) (by simp only [List.getElem?_toArray, List.getElem?_cons_zero, List.getElem?_cons_succ]; rfl) (by kernel_rfl) (by kernel_rfl) (by kernel_rfl) (by exact fun _ _ _ h => h) (Or.inl ⟨by rfl, ?_⟩) (by assumption) ?_
              · intro w hSw
                go_simp
              simp only [Act.put, List.setIfInBounds_toArray, List.set_cons_zero, List.set_cons_succ]
              refine wpAnyH_take (i := 7) (v := .int .i64 (r : Int)) (by simp only [List.getElem?_toArray, List.getElem?_cons_zero, List.getElem?_cons_succ]; rfl) (by kernel_rfl) (by kernel_rfl) (by kernel_rfl) (by exact fun _ _ _ h => h) (Or.inl ⟨by rfl, ?_⟩) (by assumption) ?_
              · intro w hSw
                go_simp
              simp only [Act.put, List.setIfInBounds_toArray, List.set_cons_zero, List.set_cons_succ]
              refine wpAnyH_take (i := 8) (v := .int .i64 (100 * (r : Int))) (by simp only [List.getElem?_toArray, List.getElem?_cons_zero, List.getElem?_cons_succ]; rfl) (by kernel_rfl) (by kernel_rfl) (by kernel_rfl) (by exact fun _ _ _ h => h) (Or.inl ⟨by rfl, ?_⟩) (by assumption) ?_
              · intro w hSw
                go_simp
              simp only [Act.put, List.setIfInBounds_toArray, List.set_cons_zero, List.set_cons_succ]
              refine wpAnyH_take (i := 9) (v := .int .i64 ((k : Int) + 100 * (r : Int))) (by simp only [List.getElem?_toArray, List.getElem?_cons_zero, List.getElem?_cons_succ]; rfl) (by kernel_rfl) (by kernel_rfl) (by kernel_rfl) (by exact fun _ _ _ h => h) (Or.inl ⟨by rfl, ?_⟩) (by assumption) ?_
              · intro w hSw
                go_simp
              simp only [Act.put, List.setIfInBounds_toArray, List.set_cons_zero, List.set_cons_succ]
              refine wpAnyH_take (i := 10) (v := .slice (some ⟨ab, ao, none⟩) len1 cap1) (by simp only [List.getElem?_toArray, List.getElem?_cons_zero, List.getElem?_cons_succ]; rfl) (by kernel_rfl) (by kernel_rfl) (by kernel_rfl) (by exact fun _ _ _ h => h) (Or.inl ⟨by rfl, ?_⟩) (by assumption) ?_
              · intro w hSw
                go_simp
              simp only [Act.put, List.setIfInBounds_toArray, List.set_cons_zero, List.set_cons_succ]
              refine wpAnyH_take (i := 11) (v := .int .i64 (i : Int)) (by simp only [List.getElem?_toArray, List.getElem?_cons_zero, List.getElem?_cons_succ]; rfl) (by kernel_rfl) (by kernel_rfl) (by kernel_rfl) (by exact fun _ _ _ h => h) (Or.inl ⟨by rfl, ?_⟩) (by assumption) ?_
              · intro w hSw
                go_simp
              simp only [Act.put, List.setIfInBounds_toArray, List.set_cons_zero, List.set_cons_succ]
              refine wpAnyH_take (i := 12) (v := .pointer (some ⟨ab, ao + i, none⟩)) (by simp only [List.getElem?_toArray, List.getElem?_cons_zero, List.getElem?_cons_succ]; rfl) (by kernel_rfl) (by kernel_rfl) (by kernel_rfl) (by exact fun _ _ _ h => h) (Or.inl ⟨by rfl, ?_⟩) (by assumption) ?_
              · intro w hSw
                go_simp
              simp only [Act.put, List.setIfInBounds_toArray, List.set_cons_zero, List.set_cons_succ]
              refine wpAnyH_take (i := 13) (v := .int .i64 zq) (by simp only [List.getElem?_toArray, List.getElem?_cons_zero, List.getElem?_cons_succ]; rfl) (by kernel_rfl) (by kernel_rfl) (by kernel_rfl) (by exact fun _ _ _ h => h) (Or.inl ⟨by rfl, ?_⟩) (by assumption) ?_
              · intro w hSw
                go_simp
              simp only [Act.put, List.setIfInBounds_toArray, List.set_cons_zero, List.set_cons_succ]
              refine wpAnyH_take (i := 14) (v := .int .i64 (zq.tdiv 7)) (by simp only [List.getElem?_toArray, List.getElem?_cons_zero, List.getElem?_cons_succ]; rfl) (by kernel_rfl) (by kernel_rfl) (by kernel_rfl) (by exact fun _ _ _ h => h) (Or.inl ⟨by rfl, ?_⟩) (by assumption) ?_
              · intro w hSw
                go_simp
              simp only [Act.put, List.setIfInBounds_toArray, List.set_cons_zero, List.set_cons_succ]
              refine wpAnyH_take (i := 16) (v := .int .u32 a2) (by simp only [List.getElem?_toArray, List.getElem?_cons_zero, List.getElem?_cons_succ]; rfl) (by kernel_rfl) (by kernel_rfl) (by kernel_rfl) (by exact fun _ _ _ h => h) (Or.inl ⟨by rfl, ?_⟩) (by assumption) ?_
              · intro w hSw
                go_simp
              simp only [Act.put, List.setIfInBounds_toArray, List.set_cons_zero, List.set_cons_succ]
              refine wpAnyH_take (i := 17) (v := .int .u32 (t : Int)) (by simp only [List.getElem?_toArray, List.getElem?_cons_zero, List.getElem?_cons_succ]; rfl) (by kernel_rfl) (by kernel_rfl) (by kernel_rfl) (by exact fun _ _ _ h => h) (Or.inl ⟨by rfl, ?_⟩) (by assumption) ?_
              · intro w hSw
                go_simp
              simp only [Act.put, List.setIfInBounds_toArray, List.set_cons_zero, List.set_cons_succ]
              refine wpAnyH_ready (rs := [15]) (by kernel_rfl) (by simp) ?_
              refine AllReadyH.cons (by simp only [List.getElem?_toArray, List.getElem?_cons_zero, List.getElem?_cons_succ]; rfl) (fun K0 hK => ?_) AllReadyH.nil
              go_simp
              refine (hn7 _).mono ?_
              rintro e wn ⟨rfl, hwn⟩
              subst wn
              go_wp2_with fail
              refine hK.out _ _ (HCI.out _ (by first | exact HB7.out | exact HB7.out.drew)) (fun hHeld => ?_)
              clear hK K0
              refine wpAnyH_ready (rs := [18]) (by kernel_rfl) (by simp) ?_
              refine AllReadyH.cons (by simp only [List.getElem?_toArray, List.getElem?_cons_zero, List.getElem?_cons_succ]; rfl) (fun K0 hK => ?_) AllReadyH.nil
              go_simp
              refine (HSP.out _ (by first | exact Below.refl _ _ | exact (Below.refl _ _).drew)).mono ?_
              rintro e w8 ⟨⟨v8, rfl⟩, A8, C8, M8, B8⟩
              have HA8 := hid A8
              have HC8 := hid C8
              have HM8 := hid M8
              have HB8 := hid B8
              clear A8 C8 M8 B8
              go_wp2_with fail
              refine hK.out _ _ (HCI.out _ HB8.out) (fun hHeld => ?_)
              clear hK K0
              refine wpAnyH_done (by kernel_rfl) ?_ _
              clear hHeld
              --R26E
              go_wp2_with fail
              go_roundw
              case rel => exact ⟨i + 1, by omega, by go_num, _, _, HA8.out.mono (by omega) (Nat.le_refl _) (Nat.le_refl _), HF8.out, HC8.out, HM8.out, HB8.out⟩
              case measure => simp [RowKit.intOf]; omega
--DEV1
        · obtain rfl : i = len1 := by omega
          have hop := HA.out.open_ (by omega) (by omega) (by decide) (by omega) hep5
          have HLE := hid hlod
          clear hlt hC hi hlod
          go_wp2_with fail
          refine hop.mono ?_
          rintro e w7 ⟨⟨s7, rfl, m7, D7, I7, S7, L7⟩, b7, kp7⟩
          have HC7 := hid (HC.out.keep (kp7.blk y (by simp)))
          have M7 := HM.out.kp kp7 (by simp)
          have B7 := HBW.out.trans b7
          have hsa := samel_w [y, x] bs w1.heap.size 400 _ _ s7 d ep5 _ x V5 C M5 w7 m7 D7 I7 S7 L7 M7 (by simp) HREL.out (fun w' hb => HBS.out.below (B7.trans hb)) (by omega) (by omega) (by omega)
          have hX7 : ∀ x ∈ I7.p :: own I7.d m7, x ∈ I7.own m7 := fun x hx => by
            rcases List.mem_cons.1 hx with rfl | hx
            · simp
            · exact UpF.own_sub hx
          have HT7 := hid (fun (w' : World) (ht : Turn (I7.p :: own I7.d m7) w7 w') => (⟨L7.kp ht hX7, ht.below L7.los fun x hx => L7.at_.own_lo x (hX7 x hx)⟩ : Kp [y, x] w7 w' ∧ Below w1.heap.size w7 w'))
          have HM7 := hid M7
          have HB7 := hid B7
          clear hop b7 kp7 M7 B7 L7 hX7
          go_wp2_with fail
          refine hsa.mono ?_
          rintro e w8 ⟨rfl, ⟨D8, c8, L8⟩, t8⟩
          obtain ⟨kp8, b8⟩ := HT7.out w8 t8
          have HC8 := hid (HC7.out.keep (kp8.blk y (by simp)))
          have HM8 := hid (HM7.out.kp kp8 (by simp))
          have HB8 := hid (HB7.out.trans b8)
          have HL8 := hid (Lim.healed0 ⟨_, _, _, _, L8⟩)
          clear hsa t8 kp8 b8 L8
          go_wp2_with fail
          obtain ⟨nA, hnA⟩ : ∃ nA, nA = nn5 + 3 * i + 400 + 3 * 0 + 30 := ⟨_, rfl⟩
          obtain ⟨cA, hcA⟩ : ∃ cA, cA = c5 + 10 + 30 := ⟨_, rfl⟩
          rw [← hnA, ← hcA] at HL8
          have hnA9 : nA ≤ 200000 ∧ cA ≤ 40000 := by omega
          clear hnA hcA
          go_loopw [17] (fun iv wr => ∃ j : Nat, j ≤ 100 ∧ iv = .int .i64 j ∧ LimH [y, x] bs wr w1.heap.size 400 (nA + 2 * j) (cA + 2 * j) s7 d V5 C ep5 (37 + 2 * j) j ∧ InC wr y dn ∧ MdAt wr x M5 ∧ Below w1.heap.size w1 wr) (fun iv _ => 100 - (RowKit.intOf iv).toNat)
          case atStart => exact ⟨0, by omega, rfl, HL8.out, HC8.out, HM8.out, HB8.out⟩
          case round =>
            obtain ⟨j, hj, rfl, hL, hC, hM, hb⟩ := hrel
            have HC := hid hC
            have HM := hid hM
            have HBW := hid hb
            have HL := hid hL
            clear hC hM hb
            by_cases hlt : j < 100
            · have hh := hL.heal (by omega) (by omega) (by omega) (by omega) hep5 (by rw [show GeoW.half 400 = 100 by decide]; exact hlt)
              clear hL
              go_wp2_with fail
              refine hh.mono ?_
              rintro e w9 ⟨v9, rfl, L9, b9, kp9⟩
              have HL9 := hid L9
              have HC9 := hid (HC.out.keep (kp9.blk y (by simp)))
              have HM9 := hid (HM.out.kp kp9 (by simp))
              have HB9 := hid (HBW.out.trans b9)
              clear hh L9 b9 kp9
              go_wp2_with fail
              go_roundw
              case rel => exact ⟨j + 1, by omega, by go_num, HL9.out, HC9.out, HM9.out, HB9.out⟩
              case measure => simp [RowKit.intOf]; omega
            · obtain rfl : j = 100 := by omega
              have hfl := hL.flush (by omega) (by omega) (by omega) (by decide)
              clear hL hlt hj
              go_wp2_with fail
              refine hfl.mono ?_
              rintro e w9 ⟨rfl, ⟨m9, D9, I9, S9, L9⟩, b9, kp9⟩
              have HL9 := hid L9
              have HC9 := hid (HC.out.keep (kp9.blk y (by simp)))
              have HM9 := hid (HM.out.kp kp9 (by simp))
              have HB9 := hid (HBW.out.trans b9)
              have hus := L9.li.used
              have hz9 := HB9.out.size
              clear hfl L9 b9 kp9
              go_wp2_with fail
              refine hus.mono ?_
              rintro e wU ⟨⟨g, gc, zs, rfl, ou, hri, hzl, hzu⟩, bU⟩
              obtain ⟨va, vc, e1, hrU⟩ := ownsRow_slice ou
              cases e1
              have hgU := own_ge ou g 0 rfl
              have hgl := own_lt ou
              have hIS : Is wU (some ⟨g, 0, none⟩) zs.length gc zs := hrU
              have LU := HL9.out.li.on bU
              have HLU := hid LU
              have HZU := hid hzu
              have HRI := hid hri
              have HCU := hid (HC9.out.below bU)
              have HMU := hid (HM9.out.below bU)
              have HBU := hid (HB9.out.trans (bU.mono hz9))
              have HbU := hid bU
              have HIS := hid hIS
              obtain ⟨ln, hln⟩ : ∃ ln, ln = zs.length := ⟨_, rfl⟩
              rw [← hln] at hzl
              have HLN := hid hln
              rw [← hln]
              clear hus ou hrU hIS LU hzu hri bU hln
              go_wp2_with fail
              have h9H := HL9.out.li.hH
              rw [show GeoW.half 400 = 100 by decide] at h9H
              have HH := hid h9H
              clear h9H
              go_loopw [21] (fun iv wr => ∃ j : Nat, j ≤ ln ∧ iv = .int .i64 j ∧ wr = wU) (fun iv _ => ln - (RowKit.intOf iv).toNat)
              case atStart => exact ⟨0, by omega, rfl, rfl⟩
              case round =>
                obtain ⟨j, hj, rfl, hwr⟩ := hrel
                subst wr
                by_cases hlt : j < ln
                · have hzj : j < zs.length := by rw [← HLN.out]; exact hlt
                  obtain ⟨b0, o0, e0, hc0⟩ := HIS.out.at hzj
                  cases e0
                  obtain ⟨a, ha, hau⟩ := HZU.out _ (List.getElem_mem hzj)
                  rw [ha, Nat.zero_add] at hc0
                  obtain ⟨fa1, fa2⟩ := HL9.out.fa a hau
                  have ha100 := used_lt hau
                  rw [HH.out] at ha100 fa2
                  have hf1 := HLU.out.faulted a (by omega)
                  have hf2 := HLU.out.faulted (a + 100) (by omega)
                  rw [fa1] at hf1
                  rw [fa2] at hf2
                  simp only [Int.natCast_add, Int.cast_ofNat_Int] at hf2
                  clear ha hau fa1 fa2
                  go_wp2_with fail
                  refine hf1.mono ?_
                  rintro e w' ⟨rfl, hw⟩
                  subst w'
                  clear hf1
                  go_wp2_with fail
                  refine hf2.mono ?_
                  rintro e w' ⟨rfl, hw⟩
                  subst w'
                  clear hf2
                  go_wp2_with fail
                  go_roundw
                  case rel => exact ⟨j + 1, by omega, by go_num, by simp⟩
                  case measure => simp [RowKit.intOf]; omega
                · obtain rfl : j = ln := by omega
                  clear hlt hj
                  go_wp2_with fail
                  obtain ⟨nB, hnB⟩ : ∃ nB, nB = nA + 2 * 100 + 3 * (37 + 2 * 100) := ⟨_, rfl⟩
                  obtain ⟨cB, hcB⟩ : ∃ cB, cB = cA + 2 * 100 + 1 := ⟨_, rfl⟩
                  obtain ⟨lA, lW⟩ := HL9.out.lame
                  rw [show GeoW.half 400 = 100 by decide] at lW
                  rw [← hnB, ← hcB] at lA
                  have hA5 := lA.more HbU.out hgU hgl
                  have HA5 := hid hA5
                  have HW5 := hid lW
                  have hnB9 : nB ≤ 300000 ∧ cB ≤ 50000 := by omega
                  have hgx : g ≠ y ∧ g ≠ x := by
                    have h1 := HC9.out.lt
                    have h2 := HM9.out.lt
                    omega
                  clear hnB hcB lA lW hA5
                  go_loopw [22] (fun iv wr => ∃ q : Nat, q ≤ j ∧ iv = .int .i64 q ∧ ∃ D, LameAt [g, y, x] bs wr w1.heap.size 400 (nB + 3 * q) cB d V5 C ep5 237 m9 D S9 ∧ (∀ p (hp : p < zs.length), q ≤ p → ∀ a : Nat, zs[p] = (a : Int) → Whole 100 S9 C D a) ∧ InC wr y dn ∧ MdAt wr x M5 ∧ Is wr (some ⟨g, 0, none⟩) zs.length gc zs ∧ Below w1.heap.size w1 wr) (fun iv _ => j - (RowKit.intOf iv).toNat)
                  case atStart =>
                    refine ⟨0, by omega, rfl, D9, HA5.out, fun p hp _ a ha => ?_, HCU.out, HMU.out, HIS.out, HBU.out⟩
                    obtain ⟨a', ha', hau⟩ := HZU.out _ (List.getElem_mem hp)
                    rw [ha] at ha'
                    obtain rfl : a = a' := by omega
                    rw [HH.out] at hau
                    exact HW5.out a hau
                  case round =>
                    obtain ⟨q, hq, rfl, D, hA, hW, hC, hM, hI, hb⟩ := hrel
                    have HA := hid hA
                    have HW := hid hW
                    have HC := hid hC
                    have HM := hid hM
                    have HI := hid hI
                    have HBW := hid hb
                    clear hA hW hM hb
                    by_cases hlt : q < j
                    · have hzj : q < zs.length := by rw [← HLN.out]; exact hlt
                      obtain ⟨b0, o0, e0, hc0⟩ := hI.at hzj
                      cases e0
                      obtain ⟨a, ha, hau⟩ := HZU.out _ (List.getElem_mem hzj)
                      have HZA := hid ha
                      rw [ha, Nat.zero_add] at hc0
                      have ha100 := used_lt hau
                      rw [HH.out] at ha100
                      have hd0 := hC.at_ a ha100
                      have haI : ((a : Nat) : Int) < 100 := by omega
                      obtain ⟨r, hr1, hr⟩ := and1 (q : Int)
                      have f1 : IntKind.i64.wrap (100 * (r : Int)) = 100 * (r : Int) := by rw [IntKind.wrap_i64]; omega
                      have f2 : IntKind.i64.wrap ((a : Int) + 100 * (r : Int)) = (a : Int) + 100 * (r : Int) := by rw [IntKind.wrap_i64]; omega
                      have HE1 := hid (show ((a : Int) + 100 * (r : Int)) = ((a + 100 * r : Nat) : Int) by omega)
                      have HII := hid (show a + 100 * r = a ∨ a + 100 * r = a + GeoW.half 400 by
                        rcases (show r = 0 ∨ r = 1 by omega) with rfl | rfl
                        · exact .inl rfl
                        · exact .inr rfl)
                      have HWK := hid (HW.out q hzj (Nat.le_refl _) a HZA.out)
                      clear ha hau hI hC
                      cases hdn : dn a with
                      | false =>
                        rw [hdn] at hd0
                        clear hdn
                        go_wp2_with fail
                        go_roundw
                        case rel => exact ⟨q + 1, by omega, by go_num, D, HA.out.mono (by omega) (Nat.le_refl _) (Nat.le_refl _), fun p hp hqp a ha => HW.out p hp (by omega) a ha, HC.out, HM.out, HI.out, HBW.out⟩
                        case measure => simp [RowKit.intOf]; omega
                      | true =>
                        rw [hdn] at hd0
                        clear hdn
                        have hfa := HA.out.fail (k := a) (i := a + 100 * r) (by omega) (by rw [show GeoW.half 400 = 100 by decide]; exact ha100) HII.out HWK.out
                        rw [← HE1.out] at hfa
                        go_wp2_with fail
                        refine hfa.mono ?_
                        rintro e w8 ⟨⟨v8, rfl⟩, A8, b8, kp8⟩
                        have HC8 := hid (HC.out.keep (kp8.blk y (by simp)))
                        have HM8 := hid (HM.out.kp kp8 (by simp))
                        have HI8 := hid (show Is w8 (some ⟨g, 0, none⟩) zs.length gc zs from Row.keep HI.out fun b o e hlt => by cases e; exact kp8.blk g (by simp))
                        have HB8 := hid (HBW.out.trans b8)
                        rw [HE1.out] at A8
                        have HW8 := hid (show ∀ p (hp : p < zs.length), q + 1 ≤ p → ∀ a' : Nat, zs[p] = (a' : Int) → Whole 100 S9 C (D.fail ((a + 100 * r : Nat) : Int)) a' from fun p hp hqp a' ha' => by
                          have h1 := HW.out p hp (by omega) a' ha'
                          have h2 := List.pairwise_iff_getElem.1 HRI.out q p hzj hp (by omega)
                          rw [HZA.out, ha'] at h2
                          obtain ⟨a'', ha'', hau''⟩ := HZU.out _ (List.getElem_mem hp)
                          rw [ha'] at ha''
                          have h3 := used_lt hau''
                          rw [HH.out] at h3
                          exact h1.but (But.fail D ((a + 100 * r : Nat) : Int)) ha100 (by omega) (by have := HII.out; rw [show GeoW.half 400 = 100 by decide] at this; omega) (by omega))
                        have HA8 := hid A8
                        clear A8 b8 kp8 hfa
                        go_wp2_with fail
                        go_roundw
                        case rel => exact ⟨q + 1, by omega, by go_num, _, HA8.out.mono (by omega) (Nat.le_refl _) (Nat.le_refl _), HW8.out, HC8.out, HM8.out, HI8.out, HB8.out⟩
                        case measure => simp [RowKit.intOf]; omega
                    · obtain rfl : q = j := by omega
                      have hop := HA.out.open_ (by omega) (by omega) (by decide) (by omega) hep5
                      clear hlt hC hI hq
                      go_wp2_with fail
                      refine hop.mono ?_
                      rintro e wA ⟨⟨sA, rfl, mA, DA, IA, SA, LA⟩, bA, kpA⟩
                      have MA := HM.out.kp kpA (by simp)
                      have BA := HBW.out.trans bA
                      have hsa := samel_w [g, y, x] bs w1.heap.size 400 _ _ sA d ep5 _ x V5 C M5 wA mA DA IA SA LA MA (by simp) HREL.out (fun w' hb => HBS.out.below (BA.trans hb)) (by omega) (by omega) (by omega)
                      have HXA := hid (fun (w' : World) (ht : Turn (IA.p :: own IA.d mA) wA w') => BA.trans (ht.below LA.los fun x hx => LA.at_.own_lo x (by
                        rcases List.mem_cons.1 hx with rfl | hx
                        · simp
                        · exact UpF.own_sub hx)))
                      clear hop bA kpA MA BA LA
                      go_wp2_with fail
                      refine hsa.mono ?_
                      rintro e wZ ⟨rfl, ⟨DZ, cZ, LZ⟩, tZ⟩
                      have HBZ := hid (HB1.out.trans ((HXA.out wZ tZ).mono HB1.out.size))
                      clear hsa LZ tZ
                      go_wp2_with fail
                      go_ret
                      exact ⟨rfl, HBZ.out⟩
theorem walk (a0 : Option Addr) (len0 cap0 : Nat) (z0 : List Int) (a1 : Option Addr) (len1 cap1 : Nat) (z1 : List Int) (a2 : Int) (w : World) (hE : Err.All w gl) (w0 : IsRow .i64 w a0 len0 cap0 z0) (w1 : IsRow .i64 w a1 len1 cap1 z1) (w2 : (Lit.int .u32 a2).wf = true) :
    Calls Tryz.prog 9 #[.slice a0 len0 cap0, .slice a1 len1 cap1, .int .u32 a2] w fun e w' => e = .returned (.bool true) ∧ Below w.heap.size w w' := by
  obtain ⟨bs, hbs⟩ := bs_of hE
  obtain ⟨l0, hl0, hw0⟩ := is_of w0
  obtain ⟨l1, hl1, hw1⟩ := is_of w1
  exact done bs a0 len0 cap0 l0 a1 len1 cap1 l1 a2 w hl0 hw0 hl1 hw1 hbs
end Go.Proofs.YtbjfgdahfpfgdaaGreatDoor.pageFaults
