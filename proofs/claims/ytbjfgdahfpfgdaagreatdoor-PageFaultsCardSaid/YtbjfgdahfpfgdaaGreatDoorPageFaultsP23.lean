/- The walk of the law's told: a page is written; The law's model: an array of it laid over another one. -/
import Derived.Test.YtbjfgdahfpfgdaaGreatDoorPageFaultsP22
import Derived.Test.YtbjfgdahfpfgdaaGreatDoorPageFaultsP21
import Derived.Deep.MidRow
namespace Go.Proofs.YtbjfgdahfpfgdaaGreatDoor.PgW
open Go Go.RowKit Go.Maps Go.Proofs.YtbjfgdahfpfgdaaGreatDoor.Mem Go.Proofs.YtbjfgdahfpfgdaaGreatDoor.MapsW Go.Proofs.YtbjfgdahfpfgdaaGreatDoor.SeeW Go.Proofs.YtbjfgdahfpfgdaaGreatDoor.DevG Go.Proofs.YtbjfgdahfpfgdaaGreatDoor.PairG Go.Proofs.YtbjfgdahfpfgdaaGreatDoor.RefsW Go.Proofs.YtbjfgdahfpfgdaaGreatDoor.PgP Go.Proofs.YtbjfgdahfpfgdaaGreatDoor.RootP Go.Proofs.YtbjfgdahfpfgdaaGreatDoor.RootW
set_option linter.unusedVariables false
set_option maxRecDepth 100000

set_option maxHeartbeats 6400000 in
theorem told1_w (Y : List Nat) (bs : List Addr) (lo b nn c s d x : Nat) (V N : Int → Option (List Nat)) (ep : Nat) (M : Md) (n : Nat) (a : Option Addr) (cap : Nat) (l : List Nat) (w : World) (hP : Play Y bs w lo b nn c s d x V N ep M) (hB : Bs w bs) (hn : nn < 690000) (hp : n < 30) (hl : Nums .u8 w a l.length cap l) (h1 : 1 ≤ l.length) (h2 : l.length ≤ 248) (hb : Crc.Bytes l) (hl3 : l.length ≤ 300) :
    Calls Tryz.prog 23 #[ptr s, ptr x, .agg #[.int .i64 1, .int .i64 (n : Int), .slice a l.length cap]] w fun e w' => e = .returned (.bool true) ∧ (∃ M', Play Y bs w' lo b (nn + 1) c s d x V (upd N (n : Int) (some l)) ep M') ∧ Below lo w w' := by
  obtain ⟨q, hq⟩ : ∃ q, q = l.length := ⟨_, rfl⟩
  have hlen := hl.bound
  have hlo := hP.st.lo
  have hy := hP.mem
  have hlx := hP.lox
  have hpI : (n : Int) < 30 := by omega
  have hP1 := hP.alloc (.cells #[.int .i64 1, .int .i64 (n : Int), .slice a l.length cap] 55)
  have b1 := (Below.refl w.heap.size w).alloc (Nat.le_refl _) (.cells #[.int .i64 1, .int .i64 (n : Int), .slice a l.length cap] 55)
  have hcd := heap_alloc_new w (.cells #[.int .i64 1, .int .i64 (n : Int), .slice a l.length cap] 55)
  have hl1 := Nums.below hl b1
  have HBS := hid (hB.below b1)
  have HB1 := hid (b1.mono hlo)
  have hdx : w.heap.size ≠ x := by have := hP.md.lt; omega
  have d1 : decide ((l.length : Int) < 1) = false := decide_eq_false (by omega)
  have d2 : decide ((248 : Int) < (l.length : Int)) = false := decide_eq_false (by omega)
  have hl0 : l ≠ [] := by rintro rfl; simp at h1
  have hcall := hP1.st.write hn (p := (n : Int)) (isP_of (by omega)) hl1 h1 h2 hb
  have HY := hid hb
  have HL1 := hid hl1
  have d3 : decide ((n : Int) < 0) = false := decide_eq_false (by omega)
  have d4 : decide ((256 : Int) ≤ (n : Int)) = false := decide_eq_false (by omega)
  go_enter Tryz.func23, Tryz.ntmps23
  go_wp2_with fail
  have hmem : w.heap.size ∈ w.heap.size :: Y := by simp
  have hmemY : ∀ y ∈ Y, y ∈ w.heap.size :: Y := fun y h => List.mem_cons_of_mem _ h
  generalize w.alloc (.cells #[.int .i64 1, .int .i64 (n : Int), .slice a l.length cap] 55) = w1 at *
  generalize w.heap.size = D at *
  refine hcall.mono ?_
  rintro e w2 ⟨rfl, K2, b2, kp2⟩
  have M2 := hP1.md.kp kp2 (hmemY x hy)
  have D2 := (kp2.blk D hmem).trans hcd
  have L2 := kp2.row _ _ _ _ hl1
  have HB2 := hid (HB1.out.trans b2)
  clear hcall b2 kp2 hcd hl1 b1
  go_wp2_with fail
  refine (is_nil _ _).mono ?_
  rintro e w3 ⟨rfl, b3⟩
  have K3 := K2.below b3
  have M3 := M2.below b3
  have D3 := (b3.block D (Array.getElem?_eq_some_iff.1 D2).1).trans D2
  have L3 := Nums.below L2 b3
  have HB3 := hid (HB2.out.trans (b3.mono K2.lo))
  have hlo3 := K3.lo
  have e0 : w3.cell? ⟨D, 0, none⟩ = some (.int .i64 1) := by simp [World.cell?, D3]
  have e2 : w3.cell? ⟨D, 2, none⟩ = some (.slice a l.length cap) := by simp [World.cell?, D3]
  have o3 : w3.cell? ⟨x, 60 + n, none⟩ = some (.bool (M.on n)) := by rw [M3.at_ _ (by omega), M.val_on hp]
  have t3 : w3.cell? ⟨x, 121 + n, none⟩ = some (.bool (M.tou n)) := by rw [M3.at_ _ (by omega), M.val_tou hp]
  have hDx' : D ∉ [x] := by simp; exact hdx
  have HP1 := hid hP1
  have HP := hid hP
  clear K2 M2 D2 L2 b3 hP1 hP
  -- what is touched
  obtain ⟨TV, hTV⟩ : ∃ TV, TV = true := ⟨_, rfl⟩
  have MA := (M3.setTou hp TV).below (Below.refl _ _).drew
  have KA := K3.cell M3 (hmemY x hy) hlx ((Turn.setCell (S := [x]) w3 x (121 + n) (.bool TV) (by simp)).then (Turn.of_below (Below.refl (w3.setCell ⟨x, 121 + n, none⟩ (.bool TV)).heap.size (w3.setCell ⟨x, 121 + n, none⟩ (.bool TV))).drew))
  have tA : Turn [x] w3 (w3.setCell ⟨x, 121 + n, none⟩ (.bool TV)).drew := (Turn.setCell w3 x (121 + n) (.bool TV) (by simp)).then (Turn.of_below (Below.refl _ _).drew)
  have zA : w3.heap.size ≤ (w3.setCell ⟨x, 121 + n, none⟩ (.bool TV)).drew.heap.size := tA.size
  have eA0 := cell_turn e0 tA hDx'
  have eA2 := cell_turn e2 tA hDx'
  have oA : (w3.setCell ⟨x, 121 + n, none⟩ (.bool TV)).drew.cell? ⟨x, 60 + n, none⟩ = some (.bool (M.on n)) := by rw [MA.at_ _ (by omega), Md.val_on _ hp]
  have LA := DevG.nums_turn L3 tA M3.u8
  have fT := M3.frozen (121 + n)
  have HKA := hid KA
  have HMA := hid MA
  have HTA := hid tA
  have HLA := hid LA
  have HMd := hid M3
  clear KA MA tA LA K3 M3 D3 L3
  cases htou : M.tou n with
  | true =>
    rw [htou] at t3
    have hTV1 : TV = true := by rw [hTV]
    have HTV := hid hTV
    subst hTV1
    clear htou hTV
    go_upto_region 15 with fail
    refine wp_region_held_drew (S := fun w' => w'.cell? ⟨D, 0, none⟩ = some (.int .i64 1) ∧ w'.cell? ⟨x, 60 + n, none⟩ = some (.bool (M.on n))) (by kernel_rfl) ⟨e0, o3⟩ (fun hHeld => ?_)
    refine wpAnyH_take (i := 0) (v := ptr x) (by simp only [List.getElem?_toArray, List.getElem?_cons_zero]; rfl) (by kernel_rfl) (by kernel_rfl) (by kernel_rfl) (by exact fun _ _ _ h => h) (Or.inl ⟨by rfl, ?_⟩) (by assumption) ?_
    · intro w hSw
      go_simp
    simp only [Act.put, List.setIfInBounds_toArray, List.set_cons_zero, List.set_cons_succ]
    refine wpAnyH_take (i := 1) (v := .int .i64 (n : Int)) (by simp only [List.getElem?_toArray, List.getElem?_cons_zero, List.getElem?_cons_succ]; rfl) (by kernel_rfl) (by kernel_rfl) (by kernel_rfl) (by exact fun _ _ _ h => h) (Or.inl ⟨by rfl, ?_⟩) (by assumption) ?_
    · intro w hSw
      go_simp
    simp only [Act.put, List.setIfInBounds_toArray, List.set_cons_zero, List.set_cons_succ]
    refine wpAnyH_take (i := 2) (v := ptr x) (by simp only [List.getElem?_toArray, List.getElem?_cons_zero, List.getElem?_cons_succ]; rfl) (by kernel_rfl) (by kernel_rfl) (by kernel_rfl) (by exact fun _ _ _ h => h) (Or.inl ⟨by rfl, ?_⟩) (by assumption) ?_
    · intro w hSw
      go_simp
    simp only [Act.put, List.setIfInBounds_toArray, List.set_cons_zero, List.set_cons_succ]
    refine wpAnyH_take (i := 3) (v := .int .i64 (n : Int)) (by simp only [List.getElem?_toArray, List.getElem?_cons_zero, List.getElem?_cons_succ]; rfl) (by kernel_rfl) (by kernel_rfl) (by kernel_rfl) (by exact fun _ _ _ h => h) (Or.inl ⟨by rfl, ?_⟩) (by assumption) ?_
    · intro w hSw
      go_simp
    simp only [Act.put, List.setIfInBounds_toArray, List.set_cons_zero, List.set_cons_succ]
    refine wpAnyH_take (i := 4) (v := .pointer (some ⟨x, 0, none⟩)) (by simp only [List.getElem?_toArray, List.getElem?_cons_zero, List.getElem?_cons_succ]; rfl) (by kernel_rfl) (by kernel_rfl) (by kernel_rfl) (by exact fun _ _ _ h => h) (Or.inl ⟨by rfl, ?_⟩) (by assumption) ?_
    · intro w hSw
      go_simp
    simp only [Act.put, List.setIfInBounds_toArray, List.set_cons_zero, List.set_cons_succ]
    refine wpAnyH_take (i := 5) (v := .pointer (some ⟨x, 121, none⟩)) (by simp only [List.getElem?_toArray, List.getElem?_cons_zero, List.getElem?_cons_succ]; rfl) (by kernel_rfl) (by kernel_rfl) (by kernel_rfl) (by exact fun _ _ _ h => h) (Or.inl ⟨by rfl, ?_⟩) (by assumption) ?_
    · intro w hSw
      go_simp
    simp only [Act.put, List.setIfInBounds_toArray, List.set_cons_zero, List.set_cons_succ]
    refine wpAnyH_take (i := 6) (v := .pointer (some ⟨x, 121 + n, none⟩)) (by simp only [List.getElem?_toArray, List.getElem?_cons_zero, List.getElem?_cons_succ]; rfl) (by kernel_rfl) (by kernel_rfl) (by kernel_rfl) (by exact fun _ _ _ h => h) (Or.inl ⟨by rfl, ?_⟩) (by assumption) ?_
    · intro w hSw
      go_simp
    simp only [Act.put, List.setIfInBounds_toArray, List.set_cons_zero, List.set_cons_succ]
    refine wpAnyH_take (i := 21) (v := .pointer (some ⟨x, 0, none⟩)) (by simp only [List.getElem?_toArray, List.getElem?_cons_zero, List.getElem?_cons_succ]; rfl) (by kernel_rfl) (by kernel_rfl) (by kernel_rfl) (by exact fun _ _ _ h => h) (Or.inl ⟨by rfl, ?_⟩) (by assumption) ?_
    · intro w hSw
      go_simp
    simp only [Act.put, List.setIfInBounds_toArray, List.set_cons_zero, List.set_cons_succ]
    refine wpAnyH_take (i := 22) (v := .pointer (some ⟨x, 121, none⟩)) (by simp only [List.getElem?_toArray, List.getElem?_cons_zero, List.getElem?_cons_succ]; rfl) (by kernel_rfl) (by kernel_rfl) (by kernel_rfl) (by exact fun _ _ _ h => h) (Or.inl ⟨by rfl, ?_⟩) (by assumption) ?_
    · intro w hSw
      go_simp
    simp only [Act.put, List.setIfInBounds_toArray, List.set_cons_zero, List.set_cons_succ]
    refine wpAnyH_ready (rs := [7]) (by kernel_rfl) (by simp) ?_
    refine AllReadyH.cons (by simp only [List.getElem?_toArray, List.getElem?_cons_zero, List.getElem?_cons_succ]; rfl) (fun K0 hK => ?_) AllReadyH.nil
    go_simp
    refine hK.out _ _ ⟨e0, o3⟩ (fun hHeld => ?_)
    clear hK K0
    refine wpAnyH_take (i := 8) (v := .bool true) (by simp only [List.getElem?_toArray, List.getElem?_cons_zero, List.getElem?_cons_succ]; rfl) (by kernel_rfl) (by kernel_rfl) (by kernel_rfl) (by exact fun _ _ _ h => h) (Or.inl ⟨by rfl, ?_⟩) (by assumption) ?_
    · intro w hSw
      go_simp
    simp only [Act.put, List.setIfInBounds_toArray, List.set_cons_zero, List.set_cons_succ]
    refine wpAnyH_take (i := 9) (v := undef) (by simp only [List.getElem?_toArray, List.getElem?_cons_zero, List.getElem?_cons_succ]; rfl) (by kernel_rfl) (by kernel_rfl) (by kernel_rfl) (by exact fun _ _ _ h => h) (Or.inr ⟨by rfl, rfl⟩) (by assumption) ?_
    simp only [Act.put, List.setIfInBounds_toArray, List.set_cons_zero, List.set_cons_succ]
    refine wpAnyH_take (i := 10) (v := undef) (by simp only [List.getElem?_toArray, List.getElem?_cons_zero, List.getElem?_cons_succ]; rfl) (by kernel_rfl) (by kernel_rfl) (by kernel_rfl) (by exact fun _ _ _ h => h) (Or.inr ⟨by rfl, rfl⟩) (by assumption) ?_
    simp only [Act.put, List.setIfInBounds_toArray, List.set_cons_zero, List.set_cons_succ]
    refine wpAnyH_take (i := 11) (v := undef) (by simp only [List.getElem?_toArray, List.getElem?_cons_zero, List.getElem?_cons_succ]; rfl) (by kernel_rfl) (by kernel_rfl) (by kernel_rfl) (by exact fun _ _ _ h => h) (Or.inr ⟨by rfl, rfl⟩) (by assumption) ?_
    simp only [Act.put, List.setIfInBounds_toArray, List.set_cons_zero, List.set_cons_succ]
    refine wpAnyH_take (i := 12) (v := .bool true) (by simp only [List.getElem?_toArray, List.getElem?_cons_zero, List.getElem?_cons_succ]; rfl) (by kernel_rfl) (by kernel_rfl) (by kernel_rfl) (by exact fun _ _ _ h => h) (Or.inl ⟨by rfl, ?_⟩) (by assumption) ?_
    · intro w hSw
      go_simp
    simp only [Act.put, List.setIfInBounds_toArray, List.set_cons_zero, List.set_cons_succ]
    refine wpAnyH_take (i := 13) (v := .bool true) (by simp only [List.getElem?_toArray, List.getElem?_cons_zero, List.getElem?_cons_succ]; rfl) (by kernel_rfl) (by kernel_rfl) (by kernel_rfl) (by exact fun _ _ _ h => h) (Or.inl ⟨by rfl, ?_⟩) (by assumption) ?_
    · intro w hSw
      go_simp
    simp only [Act.put, List.setIfInBounds_toArray, List.set_cons_zero, List.set_cons_succ]
    refine wpAnyH_take (i := 14) (v := undef) (by simp only [List.getElem?_toArray, List.getElem?_cons_zero, List.getElem?_cons_succ]; rfl) (by kernel_rfl) (by kernel_rfl) (by kernel_rfl) (by exact fun _ _ _ h => h) (Or.inr ⟨by rfl, rfl⟩) (by assumption) ?_
    simp only [Act.put, List.setIfInBounds_toArray, List.set_cons_zero, List.set_cons_succ]
    refine wpAnyH_take (i := 15) (v := undef) (by simp only [List.getElem?_toArray, List.getElem?_cons_zero, List.getElem?_cons_succ]; rfl) (by kernel_rfl) (by kernel_rfl) (by kernel_rfl) (by exact fun _ _ _ h => h) (Or.inr ⟨by rfl, rfl⟩) (by assumption) ?_
    simp only [Act.put, List.setIfInBounds_toArray, List.set_cons_zero, List.set_cons_succ]
    refine wpAnyH_take (i := 16) (v := undef) (by simp only [List.getElem?_toArray, List.getElem?_cons_zero, List.getElem?_cons_succ]; rfl) (by kernel_rfl) (by kernel_rfl) (by kernel_rfl) (by exact fun _ _ _ h => h) (Or.inr ⟨by rfl, rfl⟩) (by assumption) ?_
    simp only [Act.put, List.setIfInBounds_toArray, List.set_cons_zero, List.set_cons_succ]
    refine wpAnyH_take (i := 17) (v := undef) (by simp only [List.getElem?_toArray, List.getElem?_cons_zero, List.getElem?_cons_succ]; rfl) (by kernel_rfl) (by kernel_rfl) (by kernel_rfl) (by exact fun _ _ _ h => h) (Or.inr ⟨by rfl, rfl⟩) (by assumption) ?_
    simp only [Act.put, List.setIfInBounds_toArray, List.set_cons_zero, List.set_cons_succ]
    refine wpAnyH_take (i := 18) (v := undef) (by simp only [List.getElem?_toArray, List.getElem?_cons_zero, List.getElem?_cons_succ]; rfl) (by kernel_rfl) (by kernel_rfl) (by kernel_rfl) (by exact fun _ _ _ h => h) (Or.inr ⟨by rfl, rfl⟩) (by assumption) ?_
    simp only [Act.put, List.setIfInBounds_toArray, List.set_cons_zero, List.set_cons_succ]
    refine wpAnyH_take (i := 19) (v := undef) (by simp only [List.getElem?_toArray, List.getElem?_cons_zero, List.getElem?_cons_succ]; rfl) (by kernel_rfl) (by kernel_rfl) (by kernel_rfl) (by exact fun _ _ _ h => h) (Or.inr ⟨by rfl, rfl⟩) (by assumption) ?_
    simp only [Act.put, List.setIfInBounds_toArray, List.set_cons_zero, List.set_cons_succ]
    refine wpAnyH_take (i := 20) (v := .bool true) (by simp only [List.getElem?_toArray, List.getElem?_cons_zero, List.getElem?_cons_succ]; rfl) (by kernel_rfl) (by kernel_rfl) (by kernel_rfl) (by exact fun _ _ _ h => h) (Or.inl ⟨by rfl, ?_⟩) (by assumption) ?_
    · intro w hSw
      go_simp
    simp only [Act.put, List.setIfInBounds_toArray, List.set_cons_zero, List.set_cons_succ]
    refine wpAnyH_take (i := 23) (v := .pointer (some ⟨x, 121 + n, none⟩)) (by simp only [List.getElem?_toArray, List.getElem?_cons_zero, List.getElem?_cons_succ]; rfl) (by kernel_rfl) (by kernel_rfl) (by kernel_rfl) (by exact fun _ _ _ h => h) (Or.inl ⟨by rfl, ?_⟩) (by assumption) ?_
    · intro w hSw
      go_simp
    simp only [Act.put, List.setIfInBounds_toArray, List.set_cons_zero, List.set_cons_succ]
    refine wpAnyH_ready (rs := [24]) (by kernel_rfl) (by simp) ?_
    refine AllReadyH.cons (by simp only [List.getElem?_toArray, List.getElem?_cons_zero, List.getElem?_cons_succ]; rfl) (fun K0 hK => ?_) AllReadyH.nil
    go_simp
    refine hK.out _ _ ⟨eA0, oA⟩ (fun hHeld => ?_)
    clear hK K0
    refine wpAnyH_done (by kernel_rfl) ?_ _
    generalize hwA : (w3.setCell ⟨x, 121 + n, none⟩ (.bool true)).drew = wA at *
    have MB := (HMA.out.setOn hp true).below (Below.refl _ _).drew
    have tB : Turn [x] wA (wA.setCell ⟨x, 60 + n, none⟩ (.bool true)).drew := (Turn.setCell wA x (60 + n) (.bool true) (by simp)).then (Turn.of_below (Below.refl _ _).drew)
    have KB := HKA.out.cell HMA.out (hmemY x hy) hlx tB
    have eB0 := cell_turn eA0 tB hDx'
    have eB2 := cell_turn eA2 tB hDx'
    have LB := DevG.nums_turn HLA.out tB HMA.out.u8
    have fO := HMA.out.frozen (60 + n)
    have HKB := hid KB
    have HMB := hid MB
    have HTB := hid tB
    have HLB := hid LB
    clear KB MB tB LB e0 e2 o3 t3 hwA fT hHeld
    go_upto_region 16 with fail
    refine wp_region_held_drew (S := fun w' => w'.cell? ⟨D, 0, none⟩ = some (.int .i64 1)) (by kernel_rfl) eA0 (fun hHeld => ?_)
    refine wpAnyH_take (i := 0) (v := ptr x) (by simp only [List.getElem?_toArray, List.getElem?_cons_zero]; rfl) (by kernel_rfl) (by kernel_rfl) (by kernel_rfl) (by exact fun _ _ _ h => h) (Or.inl ⟨by rfl, ?_⟩) (by assumption) ?_
    · intro w hSw
      go_simp
    simp only [Act.put, List.setIfInBounds_toArray, List.set_cons_zero, List.set_cons_succ]
    refine wpAnyH_take (i := 1) (v := .int .i64 (n : Int)) (by simp only [List.getElem?_toArray, List.getElem?_cons_zero, List.getElem?_cons_succ]; rfl) (by kernel_rfl) (by kernel_rfl) (by kernel_rfl) (by exact fun _ _ _ h => h) (Or.inl ⟨by rfl, ?_⟩) (by assumption) ?_
    · intro w hSw
      go_simp
    simp only [Act.put, List.setIfInBounds_toArray, List.set_cons_zero, List.set_cons_succ]
    refine wpAnyH_take (i := 2) (v := .pointer (some ⟨D, 0, none⟩)) (by simp only [List.getElem?_toArray, List.getElem?_cons_zero, List.getElem?_cons_succ]; rfl) (by kernel_rfl) (by kernel_rfl) (by kernel_rfl) (by exact fun _ _ _ h => h) (Or.inl ⟨by rfl, ?_⟩) (by assumption) ?_
    · intro w hSw
      go_simp
    simp only [Act.put, List.setIfInBounds_toArray, List.set_cons_zero, List.set_cons_succ]
    refine wpAnyH_take (i := 3) (v := .int .i64 1) (by simp only [List.getElem?_toArray, List.getElem?_cons_zero, List.getElem?_cons_succ]; rfl) (by kernel_rfl) (by kernel_rfl) (by kernel_rfl) (by exact fun _ _ _ h => h) (Or.inl ⟨by rfl, ?_⟩) (by assumption) ?_
    · intro w hSw
      go_simp
    simp only [Act.put, List.setIfInBounds_toArray, List.set_cons_zero, List.set_cons_succ]
    refine wpAnyH_take (i := 4) (v := .bool true) (by simp only [List.getElem?_toArray, List.getElem?_cons_zero, List.getElem?_cons_succ]; rfl) (by kernel_rfl) (by kernel_rfl) (by kernel_rfl) (by exact fun _ _ _ h => h) (Or.inl ⟨by rfl, ?_⟩) (by assumption) ?_
    · intro w hSw
      go_simp
    simp only [Act.put, List.setIfInBounds_toArray, List.set_cons_zero, List.set_cons_succ]
    refine wpAnyH_take (i := 5) (v := .pointer (some ⟨x, 0, none⟩)) (by simp only [List.getElem?_toArray, List.getElem?_cons_zero, List.getElem?_cons_succ]; rfl) (by kernel_rfl) (by kernel_rfl) (by kernel_rfl) (by exact fun _ _ _ h => h) (Or.inl ⟨by rfl, ?_⟩) (by assumption) ?_
    · intro w hSw
      go_simp
    simp only [Act.put, List.setIfInBounds_toArray, List.set_cons_zero, List.set_cons_succ]
    refine wpAnyH_take (i := 6) (v := .pointer (some ⟨x, 60, none⟩)) (by simp only [List.getElem?_toArray, List.getElem?_cons_zero, List.getElem?_cons_succ]; rfl) (by kernel_rfl) (by kernel_rfl) (by kernel_rfl) (by exact fun _ _ _ h => h) (Or.inl ⟨by rfl, ?_⟩) (by assumption) ?_
    · intro w hSw
      go_simp
    simp only [Act.put, List.setIfInBounds_toArray, List.set_cons_zero, List.set_cons_succ]
    refine wpAnyH_take (i := 7) (v := .pointer (some ⟨x, 60 + n, none⟩)) (by simp only [List.getElem?_toArray, List.getElem?_cons_zero, List.getElem?_cons_succ]; rfl) (by kernel_rfl) (by kernel_rfl) (by kernel_rfl) (by exact fun _ _ _ h => h) (Or.inl ⟨by rfl, ?_⟩) (by assumption) ?_
    · intro w hSw
      go_simp
    simp only [Act.put, List.setIfInBounds_toArray, List.set_cons_zero, List.set_cons_succ]
    refine wpAnyH_ready (rs := [8]) (by kernel_rfl) (by simp) ?_
    refine AllReadyH.cons (by simp only [List.getElem?_toArray, List.getElem?_cons_zero, List.getElem?_cons_succ]; rfl) (fun K0 hK => ?_) AllReadyH.nil
    go_simp
    refine hK.out _ _ eB0 (fun hHeld => ?_)
    clear hK K0
    refine wpAnyH_done (by kernel_rfl) ?_ _
    generalize hwB : (wA.setCell ⟨x, 60 + n, none⟩ (.bool true)).drew = wB at *
    have hby := fun (w' : World) (hb' : Below wB.heap.size wB w') => RefW.bytes_w a l.length cap l w' (Nums.below HLB.out hb') (by omega)
    have fB := HMB.out.frozen n
    clear eA0 eA2 oA hwB fO hHeld
    go_upto_region 17 with fail
    refine wp_region_held_drew (S := fun w' => w'.cell? ⟨D, 2, none⟩ = some (.slice a l.length cap)) (by kernel_rfl) eB2 (fun hHeld => ?_)
    refine wpAnyH_take (i := 0) (v := ptr x) (by simp only [List.getElem?_toArray, List.getElem?_cons_zero]; rfl) (by kernel_rfl) (by kernel_rfl) (by kernel_rfl) (by exact fun _ _ _ h => h) (Or.inl ⟨by rfl, ?_⟩) (by assumption) ?_
    · intro w hSw
      go_simp
    simp only [Act.put, List.setIfInBounds_toArray, List.set_cons_zero, List.set_cons_succ]
    refine wpAnyH_take (i := 1) (v := .int .i64 (n : Int)) (by simp only [List.getElem?_toArray, List.getElem?_cons_zero, List.getElem?_cons_succ]; rfl) (by kernel_rfl) (by kernel_rfl) (by kernel_rfl) (by exact fun _ _ _ h => h) (Or.inl ⟨by rfl, ?_⟩) (by assumption) ?_
    · intro w hSw
      go_simp
    simp only [Act.put, List.setIfInBounds_toArray, List.set_cons_zero, List.set_cons_succ]
    refine wpAnyH_take (i := 2) (v := .pointer (some ⟨D, 2, none⟩)) (by simp only [List.getElem?_toArray, List.getElem?_cons_zero, List.getElem?_cons_succ]; rfl) (by kernel_rfl) (by kernel_rfl) (by kernel_rfl) (by exact fun _ _ _ h => h) (Or.inl ⟨by rfl, ?_⟩) (by assumption) ?_
    · intro w hSw
      go_simp
    simp only [Act.put, List.setIfInBounds_toArray, List.set_cons_zero, List.set_cons_succ]
    refine wpAnyH_take (i := 3) (v := .slice a l.length cap) (by simp only [List.getElem?_toArray, List.getElem?_cons_zero, List.getElem?_cons_succ]; rfl) (by kernel_rfl) (by kernel_rfl) (by kernel_rfl) (by exact fun _ _ _ h => h) (Or.inl ⟨by rfl, ?_⟩) (by assumption) ?_
    · intro w hSw
      go_simp
    simp only [Act.put, List.setIfInBounds_toArray, List.set_cons_zero, List.set_cons_succ]
    refine wpAnyH_take (i := 5) (v := .pointer (some ⟨x, 0, none⟩)) (by simp only [List.getElem?_toArray, List.getElem?_cons_zero, List.getElem?_cons_succ]; rfl) (by kernel_rfl) (by kernel_rfl) (by kernel_rfl) (by exact fun _ _ _ h => h) (Or.inl ⟨by rfl, ?_⟩) (by assumption) ?_
    · intro w hSw
      go_simp
    simp only [Act.put, List.setIfInBounds_toArray, List.set_cons_zero, List.set_cons_succ]
    refine wpAnyH_take (i := 6) (v := .pointer (some ⟨x, 0, none⟩)) (by simp only [List.getElem?_toArray, List.getElem?_cons_zero, List.getElem?_cons_succ]; rfl) (by kernel_rfl) (by kernel_rfl) (by kernel_rfl) (by exact fun _ _ _ h => h) (Or.inl ⟨by rfl, ?_⟩) (by assumption) ?_
    · intro w hSw
      go_simp
    simp only [Act.put, List.setIfInBounds_toArray, List.set_cons_zero, List.set_cons_succ]
    refine wpAnyH_ready (rs := [4]) (by kernel_rfl) (by simp) ?_
    refine AllReadyH.cons (by simp only [List.getElem?_toArray, List.getElem?_cons_zero, List.getElem?_cons_succ]; rfl) (fun K0 hK => ?_) AllReadyH.nil
    go_simp
    refine (hby _ (Below.refl _ _).drew).mono ?_
    rintro e w5 ⟨v5, rfl, own5, b5⟩
    obtain ⟨va, vc, rfl, hvr⟩ := ownsRow_slice own5
    have B5 := (Below.refl wB.heap.size wB).drew.trans (b5.mono (Nat.le_refl _))
    have M5 := HMB.out.below B5
    have K5 := HKB.out.below B5
    have M6 := M5.setNow hp ⟨va, vc, l⟩ hvr
    have T6 : Turn [x] wB (w5.setCell ⟨x, n, none⟩ (.slice va l.length vc)) := (Turn.of_below B5).then (Turn.setCell w5 x n _ (by simp))
    have K6 := K5.cell M5 (hmemY x hy) hlx (Turn.setCell (S := [x]) w5 x n (.slice va l.length vc) (by simp))
    have eC2 := cell_turn (kept b5 (show wB.drew.cell? ⟨D, 2, none⟩ = _ from eB2)) (Turn.setCell (S := [x]) w5 x n (.slice va l.length vc) (by simp)) hDx'
    have f5 := M5.frozen n
    have c5 := M5.at_ n (by omega)
    go_wp2_with fail
    refine hK.out _ _ (kept b5 (show wB.drew.cell? ⟨D, 2, none⟩ = _ from eB2)) (fun hHeld => ?_)
    clear hK K0
    refine wpAnyH_take (i := 7) (v := .pointer (some ⟨x, n, none⟩)) (by simp only [List.getElem?_toArray, List.getElem?_cons_zero, List.getElem?_cons_succ]; rfl) (by kernel_rfl) (by kernel_rfl) (by kernel_rfl) (by exact fun _ _ _ h => h) (Or.inl ⟨by rfl, ?_⟩) (by assumption) ?_
    · intro w hSw
      go_simp
    simp only [Act.put, List.setIfInBounds_toArray, List.set_cons_zero, List.set_cons_succ]
    refine wpAnyH_ready (rs := [8]) (by kernel_rfl) (by simp) ?_
    refine AllReadyH.cons (by simp only [List.getElem?_toArray, List.getElem?_cons_zero, List.getElem?_cons_succ]; rfl) (fun K0 hK => ?_) AllReadyH.nil
    go_simp
    refine hK.out _ _ eC2 (fun hHeld => ?_)
    clear hK K0
    refine wpAnyH_done (by kernel_rfl) ?_ _
    have HK6 := hid K6
    have HM6 := hid M6
    have HT6 := hid T6
    clear hby b5 B5 M5 K5 M6 K6 T6 eB2 hHeld hvr
    go_wp2_with fail
    go_ret
    refine ⟨rfl, ⟨_, HK6.out.sub hmemY, HM6.out, HP.out.rel.write hp ⟨va, vc, l⟩ hl0, hy, hlx⟩, ?_⟩
    exact ((((HB3.out.trans (HTA.out.below hlo3 (fun y hy => by rw [List.mem_singleton.1 hy]; exact hlx))).trans (HTB.out.below (Nat.le_trans hlo3 HTA.out.size) (fun y hy => by rw [List.mem_singleton.1 hy]; exact hlx))).trans (HT6.out.below (Nat.le_trans (Nat.le_trans hlo3 HTA.out.size) HTB.out.size) (fun y hy => by rw [List.mem_singleton.1 hy]; exact hlx))))
  | false =>
    rw [htou] at t3
    have hTV1 : TV = true := by rw [hTV]
    have HTV := hid hTV
    subst hTV1
    clear htou hTV
    go_upto_region 15 with fail
    refine wp_region_held_drew (S := fun w' => w'.cell? ⟨D, 0, none⟩ = some (.int .i64 1) ∧ w'.cell? ⟨x, 60 + n, none⟩ = some (.bool (M.on n))) (by kernel_rfl) ⟨e0, o3⟩ (fun hHeld => ?_)
    refine wpAnyH_take (i := 0) (v := ptr x) (by simp only [List.getElem?_toArray, List.getElem?_cons_zero]; rfl) (by kernel_rfl) (by kernel_rfl) (by kernel_rfl) (by exact fun _ _ _ h => h) (Or.inl ⟨by rfl, ?_⟩) (by assumption) ?_
    · intro w hSw
      go_simp
    simp only [Act.put, List.setIfInBounds_toArray, List.set_cons_zero, List.set_cons_succ]
    refine wpAnyH_take (i := 1) (v := .int .i64 (n : Int)) (by simp only [List.getElem?_toArray, List.getElem?_cons_zero, List.getElem?_cons_succ]; rfl) (by kernel_rfl) (by kernel_rfl) (by kernel_rfl) (by exact fun _ _ _ h => h) (Or.inl ⟨by rfl, ?_⟩) (by assumption) ?_
    · intro w hSw
      go_simp
    simp only [Act.put, List.setIfInBounds_toArray, List.set_cons_zero, List.set_cons_succ]
    refine wpAnyH_take (i := 2) (v := ptr x) (by simp only [List.getElem?_toArray, List.getElem?_cons_zero, List.getElem?_cons_succ]; rfl) (by kernel_rfl) (by kernel_rfl) (by kernel_rfl) (by exact fun _ _ _ h => h) (Or.inl ⟨by rfl, ?_⟩) (by assumption) ?_
    · intro w hSw
      go_simp
    simp only [Act.put, List.setIfInBounds_toArray, List.set_cons_zero, List.set_cons_succ]
    refine wpAnyH_take (i := 3) (v := .int .i64 (n : Int)) (by simp only [List.getElem?_toArray, List.getElem?_cons_zero, List.getElem?_cons_succ]; rfl) (by kernel_rfl) (by kernel_rfl) (by kernel_rfl) (by exact fun _ _ _ h => h) (Or.inl ⟨by rfl, ?_⟩) (by assumption) ?_
    · intro w hSw
      go_simp
    simp only [Act.put, List.setIfInBounds_toArray, List.set_cons_zero, List.set_cons_succ]
    refine wpAnyH_take (i := 4) (v := .pointer (some ⟨x, 0, none⟩)) (by simp only [List.getElem?_toArray, List.getElem?_cons_zero, List.getElem?_cons_succ]; rfl) (by kernel_rfl) (by kernel_rfl) (by kernel_rfl) (by exact fun _ _ _ h => h) (Or.inl ⟨by rfl, ?_⟩) (by assumption) ?_
    · intro w hSw
      go_simp
    simp only [Act.put, List.setIfInBounds_toArray, List.set_cons_zero, List.set_cons_succ]
    refine wpAnyH_take (i := 5) (v := .pointer (some ⟨x, 121, none⟩)) (by simp only [List.getElem?_toArray, List.getElem?_cons_zero, List.getElem?_cons_succ]; rfl) (by kernel_rfl) (by kernel_rfl) (by kernel_rfl) (by exact fun _ _ _ h => h) (Or.inl ⟨by rfl, ?_⟩) (by assumption) ?_
    · intro w hSw
      go_simp
    simp only [Act.put, List.setIfInBounds_toArray, List.set_cons_zero, List.set_cons_succ]
    refine wpAnyH_take (i := 6) (v := .pointer (some ⟨x, 121 + n, none⟩)) (by simp only [List.getElem?_toArray, List.getElem?_cons_zero, List.getElem?_cons_succ]; rfl) (by kernel_rfl) (by kernel_rfl) (by kernel_rfl) (by exact fun _ _ _ h => h) (Or.inl ⟨by rfl, ?_⟩) (by assumption) ?_
    · intro w hSw
      go_simp
    simp only [Act.put, List.setIfInBounds_toArray, List.set_cons_zero, List.set_cons_succ]
    refine wpAnyH_take (i := 21) (v := .pointer (some ⟨x, 0, none⟩)) (by simp only [List.getElem?_toArray, List.getElem?_cons_zero, List.getElem?_cons_succ]; rfl) (by kernel_rfl) (by kernel_rfl) (by kernel_rfl) (by exact fun _ _ _ h => h) (Or.inl ⟨by rfl, ?_⟩) (by assumption) ?_
    · intro w hSw
      go_simp
    simp only [Act.put, List.setIfInBounds_toArray, List.set_cons_zero, List.set_cons_succ]
    refine wpAnyH_take (i := 22) (v := .pointer (some ⟨x, 121, none⟩)) (by simp only [List.getElem?_toArray, List.getElem?_cons_zero, List.getElem?_cons_succ]; rfl) (by kernel_rfl) (by kernel_rfl) (by kernel_rfl) (by exact fun _ _ _ h => h) (Or.inl ⟨by rfl, ?_⟩) (by assumption) ?_
    · intro w hSw
      go_simp
    simp only [Act.put, List.setIfInBounds_toArray, List.set_cons_zero, List.set_cons_succ]
    refine wpAnyH_ready (rs := [7]) (by kernel_rfl) (by simp) ?_
    refine AllReadyH.cons (by simp only [List.getElem?_toArray, List.getElem?_cons_zero, List.getElem?_cons_succ]; rfl) (fun K0 hK => ?_) AllReadyH.nil
    go_simp
    refine hK.out _ _ ⟨e0, o3⟩ (fun hHeld => ?_)
    clear hK K0
    refine wpAnyH_take (i := 8) (v := .bool false) (by simp only [List.getElem?_toArray, List.getElem?_cons_zero, List.getElem?_cons_succ]; rfl) (by kernel_rfl) (by kernel_rfl) (by kernel_rfl) (by exact fun _ _ _ h => h) (Or.inl ⟨by rfl, ?_⟩) (by assumption) ?_
    · intro w hSw
      go_simp
    simp only [Act.put, List.setIfInBounds_toArray, List.set_cons_zero, List.set_cons_succ]
    refine wpAnyH_take (i := 9) (v := .pointer (some ⟨D, 0, none⟩)) (by simp only [List.getElem?_toArray, List.getElem?_cons_zero, List.getElem?_cons_succ]; rfl) (by kernel_rfl) (by kernel_rfl) (by kernel_rfl) (by exact fun _ _ _ h => h) (Or.inl ⟨by rfl, ?_⟩) (by assumption) ?_
    · intro w hSw
      go_simp
    simp only [Act.put, List.setIfInBounds_toArray, List.set_cons_zero, List.set_cons_succ]
    refine wpAnyH_take (i := 10) (v := .int .i64 1) (by simp only [List.getElem?_toArray, List.getElem?_cons_zero, List.getElem?_cons_succ]; rfl) (by kernel_rfl) (by kernel_rfl) (by kernel_rfl) (by exact fun _ _ _ h => h) (Or.inl ⟨by rfl, ?_⟩) (by assumption) ?_
    · intro w hSw
      go_simp
    simp only [Act.put, List.setIfInBounds_toArray, List.set_cons_zero, List.set_cons_succ]
    refine wpAnyH_take (i := 11) (v := .bool true) (by simp only [List.getElem?_toArray, List.getElem?_cons_zero, List.getElem?_cons_succ]; rfl) (by kernel_rfl) (by kernel_rfl) (by kernel_rfl) (by exact fun _ _ _ h => h) (Or.inl ⟨by rfl, ?_⟩) (by assumption) ?_
    · intro w hSw
      go_simp
    simp only [Act.put, List.setIfInBounds_toArray, List.set_cons_zero, List.set_cons_succ]
    refine wpAnyH_take (i := 12) (v := .bool true) (by simp only [List.getElem?_toArray, List.getElem?_cons_zero, List.getElem?_cons_succ]; rfl) (by kernel_rfl) (by kernel_rfl) (by kernel_rfl) (by exact fun _ _ _ h => h) (Or.inl ⟨by rfl, ?_⟩) (by assumption) ?_
    · intro w hSw
      go_simp
    simp only [Act.put, List.setIfInBounds_toArray, List.set_cons_zero, List.set_cons_succ]
    refine wpAnyH_take (i := 13) (v := .bool true) (by simp only [List.getElem?_toArray, List.getElem?_cons_zero, List.getElem?_cons_succ]; rfl) (by kernel_rfl) (by kernel_rfl) (by kernel_rfl) (by exact fun _ _ _ h => h) (Or.inl ⟨by rfl, ?_⟩) (by assumption) ?_
    · intro w hSw
      go_simp
    simp only [Act.put, List.setIfInBounds_toArray, List.set_cons_zero, List.set_cons_succ]
    refine wpAnyH_take (i := 14) (v := undef) (by simp only [List.getElem?_toArray, List.getElem?_cons_zero, List.getElem?_cons_succ]; rfl) (by kernel_rfl) (by kernel_rfl) (by kernel_rfl) (by exact fun _ _ _ h => h) (Or.inr ⟨by rfl, rfl⟩) (by assumption) ?_
    simp only [Act.put, List.setIfInBounds_toArray, List.set_cons_zero, List.set_cons_succ]
    refine wpAnyH_take (i := 15) (v := undef) (by simp only [List.getElem?_toArray, List.getElem?_cons_zero, List.getElem?_cons_succ]; rfl) (by kernel_rfl) (by kernel_rfl) (by kernel_rfl) (by exact fun _ _ _ h => h) (Or.inr ⟨by rfl, rfl⟩) (by assumption) ?_
    simp only [Act.put, List.setIfInBounds_toArray, List.set_cons_zero, List.set_cons_succ]
    refine wpAnyH_take (i := 16) (v := undef) (by simp only [List.getElem?_toArray, List.getElem?_cons_zero, List.getElem?_cons_succ]; rfl) (by kernel_rfl) (by kernel_rfl) (by kernel_rfl) (by exact fun _ _ _ h => h) (Or.inr ⟨by rfl, rfl⟩) (by assumption) ?_
    simp only [Act.put, List.setIfInBounds_toArray, List.set_cons_zero, List.set_cons_succ]
    refine wpAnyH_take (i := 17) (v := undef) (by simp only [List.getElem?_toArray, List.getElem?_cons_zero, List.getElem?_cons_succ]; rfl) (by kernel_rfl) (by kernel_rfl) (by kernel_rfl) (by exact fun _ _ _ h => h) (Or.inr ⟨by rfl, rfl⟩) (by assumption) ?_
    simp only [Act.put, List.setIfInBounds_toArray, List.set_cons_zero, List.set_cons_succ]
    refine wpAnyH_take (i := 18) (v := undef) (by simp only [List.getElem?_toArray, List.getElem?_cons_zero, List.getElem?_cons_succ]; rfl) (by kernel_rfl) (by kernel_rfl) (by kernel_rfl) (by exact fun _ _ _ h => h) (Or.inr ⟨by rfl, rfl⟩) (by assumption) ?_
    simp only [Act.put, List.setIfInBounds_toArray, List.set_cons_zero, List.set_cons_succ]
    refine wpAnyH_take (i := 19) (v := undef) (by simp only [List.getElem?_toArray, List.getElem?_cons_zero, List.getElem?_cons_succ]; rfl) (by kernel_rfl) (by kernel_rfl) (by kernel_rfl) (by exact fun _ _ _ h => h) (Or.inr ⟨by rfl, rfl⟩) (by assumption) ?_
    simp only [Act.put, List.setIfInBounds_toArray, List.set_cons_zero, List.set_cons_succ]
    refine wpAnyH_take (i := 20) (v := .bool true) (by simp only [List.getElem?_toArray, List.getElem?_cons_zero, List.getElem?_cons_succ]; rfl) (by kernel_rfl) (by kernel_rfl) (by kernel_rfl) (by exact fun _ _ _ h => h) (Or.inl ⟨by rfl, ?_⟩) (by assumption) ?_
    · intro w hSw
      go_simp
    simp only [Act.put, List.setIfInBounds_toArray, List.set_cons_zero, List.set_cons_succ]
    refine wpAnyH_take (i := 23) (v := .pointer (some ⟨x, 121 + n, none⟩)) (by simp only [List.getElem?_toArray, List.getElem?_cons_zero, List.getElem?_cons_succ]; rfl) (by kernel_rfl) (by kernel_rfl) (by kernel_rfl) (by exact fun _ _ _ h => h) (Or.inl ⟨by rfl, ?_⟩) (by assumption) ?_
    · intro w hSw
      go_simp
    simp only [Act.put, List.setIfInBounds_toArray, List.set_cons_zero, List.set_cons_succ]
    refine wpAnyH_ready (rs := [24]) (by kernel_rfl) (by simp) ?_
    refine AllReadyH.cons (by simp only [List.getElem?_toArray, List.getElem?_cons_zero, List.getElem?_cons_succ]; rfl) (fun K0 hK => ?_) AllReadyH.nil
    go_simp
    refine hK.out _ _ ⟨eA0, oA⟩ (fun hHeld => ?_)
    clear hK K0
    refine wpAnyH_done (by kernel_rfl) ?_ _
    generalize hwA : (w3.setCell ⟨x, 121 + n, none⟩ (.bool true)).drew = wA at *
    have MB := (HMA.out.setOn hp true).below (Below.refl _ _).drew
    have tB : Turn [x] wA (wA.setCell ⟨x, 60 + n, none⟩ (.bool true)).drew := (Turn.setCell wA x (60 + n) (.bool true) (by simp)).then (Turn.of_below (Below.refl _ _).drew)
    have KB := HKA.out.cell HMA.out (hmemY x hy) hlx tB
    have eB0 := cell_turn eA0 tB hDx'
    have eB2 := cell_turn eA2 tB hDx'
    have LB := DevG.nums_turn HLA.out tB HMA.out.u8
    have fO := HMA.out.frozen (60 + n)
    have HKB := hid KB
    have HMB := hid MB
    have HTB := hid tB
    have HLB := hid LB
    clear KB MB tB LB e0 e2 o3 t3 hwA fT hHeld
    go_upto_region 16 with fail
    refine wp_region_held_drew (S := fun w' => w'.cell? ⟨D, 0, none⟩ = some (.int .i64 1)) (by kernel_rfl) eA0 (fun hHeld => ?_)
    refine wpAnyH_take (i := 0) (v := ptr x) (by simp only [List.getElem?_toArray, List.getElem?_cons_zero]; rfl) (by kernel_rfl) (by kernel_rfl) (by kernel_rfl) (by exact fun _ _ _ h => h) (Or.inl ⟨by rfl, ?_⟩) (by assumption) ?_
    · intro w hSw
      go_simp
    simp only [Act.put, List.setIfInBounds_toArray, List.set_cons_zero, List.set_cons_succ]
    refine wpAnyH_take (i := 1) (v := .int .i64 (n : Int)) (by simp only [List.getElem?_toArray, List.getElem?_cons_zero, List.getElem?_cons_succ]; rfl) (by kernel_rfl) (by kernel_rfl) (by kernel_rfl) (by exact fun _ _ _ h => h) (Or.inl ⟨by rfl, ?_⟩) (by assumption) ?_
    · intro w hSw
      go_simp
    simp only [Act.put, List.setIfInBounds_toArray, List.set_cons_zero, List.set_cons_succ]
    refine wpAnyH_take (i := 2) (v := .pointer (some ⟨D, 0, none⟩)) (by simp only [List.getElem?_toArray, List.getElem?_cons_zero, List.getElem?_cons_succ]; rfl) (by kernel_rfl) (by kernel_rfl) (by kernel_rfl) (by exact fun _ _ _ h => h) (Or.inl ⟨by rfl, ?_⟩) (by assumption) ?_
    · intro w hSw
      go_simp
    simp only [Act.put, List.setIfInBounds_toArray, List.set_cons_zero, List.set_cons_succ]
    refine wpAnyH_take (i := 3) (v := .int .i64 1) (by simp only [List.getElem?_toArray, List.getElem?_cons_zero, List.getElem?_cons_succ]; rfl) (by kernel_rfl) (by kernel_rfl) (by kernel_rfl) (by exact fun _ _ _ h => h) (Or.inl ⟨by rfl, ?_⟩) (by assumption) ?_
    · intro w hSw
      go_simp
    simp only [Act.put, List.setIfInBounds_toArray, List.set_cons_zero, List.set_cons_succ]
    refine wpAnyH_take (i := 4) (v := .bool true) (by simp only [List.getElem?_toArray, List.getElem?_cons_zero, List.getElem?_cons_succ]; rfl) (by kernel_rfl) (by kernel_rfl) (by kernel_rfl) (by exact fun _ _ _ h => h) (Or.inl ⟨by rfl, ?_⟩) (by assumption) ?_
    · intro w hSw
      go_simp
    simp only [Act.put, List.setIfInBounds_toArray, List.set_cons_zero, List.set_cons_succ]
    refine wpAnyH_take (i := 5) (v := .pointer (some ⟨x, 0, none⟩)) (by simp only [List.getElem?_toArray, List.getElem?_cons_zero, List.getElem?_cons_succ]; rfl) (by kernel_rfl) (by kernel_rfl) (by kernel_rfl) (by exact fun _ _ _ h => h) (Or.inl ⟨by rfl, ?_⟩) (by assumption) ?_
    · intro w hSw
      go_simp
    simp only [Act.put, List.setIfInBounds_toArray, List.set_cons_zero, List.set_cons_succ]
    refine wpAnyH_take (i := 6) (v := .pointer (some ⟨x, 60, none⟩)) (by simp only [List.getElem?_toArray, List.getElem?_cons_zero, List.getElem?_cons_succ]; rfl) (by kernel_rfl) (by kernel_rfl) (by kernel_rfl) (by exact fun _ _ _ h => h) (Or.inl ⟨by rfl, ?_⟩) (by assumption) ?_
    · intro w hSw
      go_simp
    simp only [Act.put, List.setIfInBounds_toArray, List.set_cons_zero, List.set_cons_succ]
    refine wpAnyH_take (i := 7) (v := .pointer (some ⟨x, 60 + n, none⟩)) (by simp only [List.getElem?_toArray, List.getElem?_cons_zero, List.getElem?_cons_succ]; rfl) (by kernel_rfl) (by kernel_rfl) (by kernel_rfl) (by exact fun _ _ _ h => h) (Or.inl ⟨by rfl, ?_⟩) (by assumption) ?_
    · intro w hSw
      go_simp
    simp only [Act.put, List.setIfInBounds_toArray, List.set_cons_zero, List.set_cons_succ]
    refine wpAnyH_ready (rs := [8]) (by kernel_rfl) (by simp) ?_
    refine AllReadyH.cons (by simp only [List.getElem?_toArray, List.getElem?_cons_zero, List.getElem?_cons_succ]; rfl) (fun K0 hK => ?_) AllReadyH.nil
    go_simp
    refine hK.out _ _ eB0 (fun hHeld => ?_)
    clear hK K0
    refine wpAnyH_done (by kernel_rfl) ?_ _
    generalize hwB : (wA.setCell ⟨x, 60 + n, none⟩ (.bool true)).drew = wB at *
    have hby := fun (w' : World) (hb' : Below wB.heap.size wB w') => RefW.bytes_w a l.length cap l w' (Nums.below HLB.out hb') (by omega)
    have fB := HMB.out.frozen n
    clear eA0 eA2 oA hwB fO hHeld
    go_upto_region 17 with fail
    refine wp_region_held_drew (S := fun w' => w'.cell? ⟨D, 2, none⟩ = some (.slice a l.length cap)) (by kernel_rfl) eB2 (fun hHeld => ?_)
    refine wpAnyH_take (i := 0) (v := ptr x) (by simp only [List.getElem?_toArray, List.getElem?_cons_zero]; rfl) (by kernel_rfl) (by kernel_rfl) (by kernel_rfl) (by exact fun _ _ _ h => h) (Or.inl ⟨by rfl, ?_⟩) (by assumption) ?_
    · intro w hSw
      go_simp
    simp only [Act.put, List.setIfInBounds_toArray, List.set_cons_zero, List.set_cons_succ]
    refine wpAnyH_take (i := 1) (v := .int .i64 (n : Int)) (by simp only [List.getElem?_toArray, List.getElem?_cons_zero, List.getElem?_cons_succ]; rfl) (by kernel_rfl) (by kernel_rfl) (by kernel_rfl) (by exact fun _ _ _ h => h) (Or.inl ⟨by rfl, ?_⟩) (by assumption) ?_
    · intro w hSw
      go_simp
    simp only [Act.put, List.setIfInBounds_toArray, List.set_cons_zero, List.set_cons_succ]
    refine wpAnyH_take (i := 2) (v := .pointer (some ⟨D, 2, none⟩)) (by simp only [List.getElem?_toArray, List.getElem?_cons_zero, List.getElem?_cons_succ]; rfl) (by kernel_rfl) (by kernel_rfl) (by kernel_rfl) (by exact fun _ _ _ h => h) (Or.inl ⟨by rfl, ?_⟩) (by assumption) ?_
    · intro w hSw
      go_simp
    simp only [Act.put, List.setIfInBounds_toArray, List.set_cons_zero, List.set_cons_succ]
    refine wpAnyH_take (i := 3) (v := .slice a l.length cap) (by simp only [List.getElem?_toArray, List.getElem?_cons_zero, List.getElem?_cons_succ]; rfl) (by kernel_rfl) (by kernel_rfl) (by kernel_rfl) (by exact fun _ _ _ h => h) (Or.inl ⟨by rfl, ?_⟩) (by assumption) ?_
    · intro w hSw
      go_simp
    simp only [Act.put, List.setIfInBounds_toArray, List.set_cons_zero, List.set_cons_succ]
    refine wpAnyH_take (i := 5) (v := .pointer (some ⟨x, 0, none⟩)) (by simp only [List.getElem?_toArray, List.getElem?_cons_zero, List.getElem?_cons_succ]; rfl) (by kernel_rfl) (by kernel_rfl) (by kernel_rfl) (by exact fun _ _ _ h => h) (Or.inl ⟨by rfl, ?_⟩) (by assumption) ?_
    · intro w hSw
      go_simp
    simp only [Act.put, List.setIfInBounds_toArray, List.set_cons_zero, List.set_cons_succ]
    refine wpAnyH_take (i := 6) (v := .pointer (some ⟨x, 0, none⟩)) (by simp only [List.getElem?_toArray, List.getElem?_cons_zero, List.getElem?_cons_succ]; rfl) (by kernel_rfl) (by kernel_rfl) (by kernel_rfl) (by exact fun _ _ _ h => h) (Or.inl ⟨by rfl, ?_⟩) (by assumption) ?_
    · intro w hSw
      go_simp
    simp only [Act.put, List.setIfInBounds_toArray, List.set_cons_zero, List.set_cons_succ]
    refine wpAnyH_ready (rs := [4]) (by kernel_rfl) (by simp) ?_
    refine AllReadyH.cons (by simp only [List.getElem?_toArray, List.getElem?_cons_zero, List.getElem?_cons_succ]; rfl) (fun K0 hK => ?_) AllReadyH.nil
    go_simp
    refine (hby _ (Below.refl _ _).drew).mono ?_
    rintro e w5 ⟨v5, rfl, own5, b5⟩
    obtain ⟨va, vc, rfl, hvr⟩ := ownsRow_slice own5
    have B5 := (Below.refl wB.heap.size wB).drew.trans (b5.mono (Nat.le_refl _))
    have M5 := HMB.out.below B5
    have K5 := HKB.out.below B5
    have M6 := M5.setNow hp ⟨va, vc, l⟩ hvr
    have T6 : Turn [x] wB (w5.setCell ⟨x, n, none⟩ (.slice va l.length vc)) := (Turn.of_below B5).then (Turn.setCell w5 x n _ (by simp))
    have K6 := K5.cell M5 (hmemY x hy) hlx (Turn.setCell (S := [x]) w5 x n (.slice va l.length vc) (by simp))
    have eC2 := cell_turn (kept b5 (show wB.drew.cell? ⟨D, 2, none⟩ = _ from eB2)) (Turn.setCell (S := [x]) w5 x n (.slice va l.length vc) (by simp)) hDx'
    have f5 := M5.frozen n
    have c5 := M5.at_ n (by omega)
    go_wp2_with fail
    refine hK.out _ _ (kept b5 (show wB.drew.cell? ⟨D, 2, none⟩ = _ from eB2)) (fun hHeld => ?_)
    clear hK K0
    refine wpAnyH_take (i := 7) (v := .pointer (some ⟨x, n, none⟩)) (by simp only [List.getElem?_toArray, List.getElem?_cons_zero, List.getElem?_cons_succ]; rfl) (by kernel_rfl) (by kernel_rfl) (by kernel_rfl) (by exact fun _ _ _ h => h) (Or.inl ⟨by rfl, ?_⟩) (by assumption) ?_
    · intro w hSw
      go_simp
    simp only [Act.put, List.setIfInBounds_toArray, List.set_cons_zero, List.set_cons_succ]
    refine wpAnyH_ready (rs := [8]) (by kernel_rfl) (by simp) ?_
    refine AllReadyH.cons (by simp only [List.getElem?_toArray, List.getElem?_cons_zero, List.getElem?_cons_succ]; rfl) (fun K0 hK => ?_) AllReadyH.nil
    go_simp
    refine hK.out _ _ eC2 (fun hHeld => ?_)
    clear hK K0
    refine wpAnyH_done (by kernel_rfl) ?_ _
    have HK6 := hid K6
    have HM6 := hid M6
    have HT6 := hid T6
    clear hby b5 B5 M5 K5 M6 K6 T6 eB2 hHeld hvr
    go_wp2_with fail
    go_ret
    refine ⟨rfl, ⟨_, HK6.out.sub hmemY, HM6.out, HP.out.rel.write hp ⟨va, vc, l⟩ hl0, hy, hlx⟩, ?_⟩
    exact ((((HB3.out.trans (HTA.out.below hlo3 (fun y hy => by rw [List.mem_singleton.1 hy]; exact hlx))).trans (HTB.out.below (Nat.le_trans hlo3 HTA.out.size) (fun y hy => by rw [List.mem_singleton.1 hy]; exact hlx))).trans (HT6.out.below (Nat.le_trans (Nat.le_trans hlo3 HTA.out.size) HTB.out.size) (fun y hy => by rw [List.mem_singleton.1 hy]; exact hlx))))

end Go.Proofs.YtbjfgdahfpfgdaaGreatDoor.PgW

namespace Go.Proofs.YtbjfgdahfpfgdaaGreatDoor.PgW
open Go Go.RowKit Go.Maps Go.Proofs.YtbjfgdahfpfgdaaGreatDoor.Mem Go.Proofs.YtbjfgdahfpfgdaaGreatDoor.MapsW Go.Proofs.YtbjfgdahfpfgdaaGreatDoor.SeeW Go.Proofs.YtbjfgdahfpfgdaaGreatDoor.DevG Go.Proofs.YtbjfgdahfpfgdaaGreatDoor.PgP
set_option linter.unusedVariables false
set_option maxRecDepth 100000

/-- thirty cells from o on are laid from p on: what the walk meets, and what is then -/
structure Copied (w : World) (x : Nat) (o p : Nat) (Ls : List Value) (M' : Md) : Prop where
  rg : w.rangeAt x o Ls
  th : w.there x p Ls.toArray.size
  len : Ls.length = 30
  one : Ls.toArray.all (·.oneCell') = true
  md : MdAt (w.setCells x p Ls) x M'
  tn : Turn [x] w (w.setCells x p Ls)
theorem MdAt.copied {w : World} {x : Nat} {M M' : Md} (h : MdAt w x M) (o p : Nat) (ho : o + 30 ≤ 151) (hp : p + 30 ≤ 151) (f : Nat → Value)
    (hf : ∀ i, i < 30 → M.val (o + i) = f i) (hv : ∀ i, i < 30 → M'.val (p + i) = f i) (h1 : ∀ i, i < 30 → (f i).oneCell' = true) (hM : ∀ j, j < 151 → (j < p ∨ p + 30 ≤ j) → M'.val j = M.val j)
    (hn : ∀ i, i < 30 → Nums .u8 w (M'.now i).a (M'.now i).l.length (M'.now i).cap (M'.now i).l) (hw : ∀ i, i < 30 → Nums .u8 w (M'.was i).a (M'.was i).l.length (M'.was i).cap (M'.was i).l) : ∃ Ls, Copied w x o p Ls M' := by
  refine ⟨(List.range 30).map f, fun j v hj => ?_, fun j hj => ?_, by simp, all_oneCell_toArray fun v hv' => ?_, ?_, turn_setCells x _ p w⟩
  · obtain ⟨hj1, hj2⟩ := List.getElem?_eq_some_iff.1 hj
    have hj3 : j < 30 := by simpa using hj1
    rw [h.at_ (o + j) (by omega), hf j hj3]
    simp at hj2
    rw [hj2]
  · have hj3 : j < 30 := by simpa using hj
    exact ⟨by rw [h.at_ (p + j) (by omega)]; rfl, h.frozen _⟩
  · obtain ⟨i, hi', rfl⟩ := List.mem_map.1 hv'
    exact h1 i (List.mem_range.1 hi')
  · refine h.set30 p _ (by simp) (fun i hi' => ?_) hM hp hn hw
    rw [hv i hi']
    simp
theorem uA : (Tryz.prog.info? 50).map (·.size) = some 30 := by kernel_rfl
theorem uB : (Tryz.prog.info? 51).map (·.size) = some 30 := by kernel_rfl
theorem MdAt.nowWas {w : World} {x : Nat} {M : Md} (h : MdAt w x M) : ∃ Ls, Copied w x 0 30 Ls { M with was := M.now } := by
  refine h.copied 0 30 (by omega) (by omega) (fun i => (M.now i).v) (fun i hi => by rw [Nat.zero_add, M.val_now hi]) (fun i hi => Md.val_was _ hi) (fun i _ => rfl) (fun j hj hne => ?_) h.now h.now
  unfold Md.val
  split
  · rfl
  · have e : ¬ j < 60 := by omega
    simp only [if_neg e]
theorem MdAt.onHad {w : World} {x : Nat} {M : Md} (h : MdAt w x M) : ∃ Ls, Copied w x 60 90 Ls { M with had := M.on } := by
  refine h.copied 60 90 (by omega) (by omega) (fun i => .bool (M.on i)) (fun i hi => M.val_on hi) (fun i hi => Md.val_had _ hi) (fun i _ => rfl) (fun j hj hne => ?_) h.now h.was
  unfold Md.val
  split <;> try rfl
  split <;> try rfl
  split <;> try rfl
  have e : ¬ j < 120 := by omega
  simp only [if_neg e]
/-- the touched ones are forgotten -/
theorem MdAt.noTou {w : World} {x : Nat} {M : Md} (h : MdAt w x M) : (w.there x 121 (List.replicate 30 (Value.bool false)).toArray.size ∧ (List.replicate 30 (Value.bool false)).toArray.all (·.oneCell') = true ∧ MdAt (w.setCells x 121 (List.replicate 30 (Value.bool false))) x { M with tou := fun _ => false } ∧ Turn [x] w (w.setCells x 121 (List.replicate 30 (Value.bool false)))) := by
  refine ⟨fun j hj => ?_, all_oneCell_toArray fun v hv => by rw [(List.mem_replicate.1 hv).2]; rfl, ?_, turn_setCells x _ _ w⟩
  · have hj3 : j < 30 := by simpa using hj
    exact ⟨by rw [h.at_ (121 + j) (by omega)]; rfl, h.frozen _⟩
  · refine h.set30 121 _ (by simp) (fun i hi' => ?_) (fun j hj hne => ?_) (by omega) h.now h.was
    · rw [Md.val_tou _ hi', List.getElem_replicate]
    · unfold Md.val
      split <;> try rfl
      split <;> try rfl
      split <;> try rfl
      split <;> try rfl
      rw [if_pos (by omega), if_pos (by omega)]
end Go.Proofs.YtbjfgdahfpfgdaaGreatDoor.PgW
