/- The walk of blob's Open, of some places. -/
import Derived.Test.YtagbnacffiagcaaDoorAreaOpen
import Derived.Test.YtagbnacffiagcaaDoorRefs
import Derived.Deep.RegionHeld3
import Derived.StillTailTactics
namespace Go.Proofs.YtagbnacffiagcaaDoor.BlobW
open Go Go.RowKit Go.Maps Go.Proofs.YtagbnacffiagcaaDoor.Mem Go.Proofs.YtagbnacffiagcaaDoor.MapsW Go.Proofs.YtagbnacffiagcaaDoor.SeeW Go.Proofs.YtagbnacffiagcaaDoor.DevG Go.Proofs.YtagbnacffiagcaaDoor.RefsW
set_option linter.unusedVariables false
set_option maxRecDepth 100000

/-- is a place data? may it be taken? -/
def isData (b : Nat) (i : Int) : Bool := decide (2 * (GeoW.half b : Int) ≤ i ∧ i < b)
/-- the k-th place -/
def plc (rs : List (Int × Nat)) (k : Nat) : Int := (rs.getD k (0, 0)).1
/-- the area behind k of the places -/
def taken (b : Nat) (rs : List (Int × Nat)) : Nat → Ar
  | 0 => Ar.none b
  | k + 1 => (taken b rs k).use (plc rs k)
/-- the k-th place may be taken -/
def fair (b : Nat) (rs : List (Int × Nat)) (k : Nat) : Bool := isData b (plc rs k) && !(taken b rs k).used (plc rs k)
/-- what Open gives: behind K places, all of them, or one that may not be taken -/
def OpenTo (bs : List Addr) (lo d n : Nat) (m : Mp) (D : Dv) (rs : List (Int × Nat)) (len K : Nat) (w : World) (e : Ending) (w' : World) : Prop :=
  (if K = len then ∃ a u q, e = .returned (.tuple #[ptr a, .nilIface]) ∧ AAt w' lo d (n + K) m D a u q (taken D.blocks rs K) else ∃ aR, bs[2]? = some aR ∧ e = .returned (.tuple #[.pointer none, ev aR])) ∧ Below w.heap.size w w'
theorem plc_at {rs : List (Int × Nat)} {j : Nat} (h : j < rs.length) : plc rs j = rs[j].1 := by
  unfold plc; rw [List.getD_eq_getElem?_getD, List.getElem?_eq_getElem h]; rfl
set_option maxHeartbeats 3200000 in
theorem aopen_any (bs : List Addr) (lo d n : Nat) (m : Mp) (D : Dv) (rs : List (Int × Nat)) (s : Option Addr) (len cap K : Nat) (w : World) (k : At w lo d n m D) (hB : Ev w lo bs RootW.six) (hr : Refs w s len cap rs) (hfit : ∀ j, j < len → Fits (plc rs j)) (h1 : 300 ≤ D.blocks) (h2 : D.blocks ≤ 6000) (hlo : lo ≤ w.heap.size) (hn : n < 10000) (hlen : len ≤ 1000) (hK : K ≤ len) (hf : ∀ j, j < K → fair D.blocks rs j = true) (hend : K < len → fair D.blocks rs K = false) :
    Calls Tryd.prog 59 #[ptr d, .slice s len cap] w (OpenTo bs lo d n m D rs len K w) := by
  have hmm := @run_makeMap Tryd.prog
  have hlr := hr.len
  obtain ⟨hc1, hc2⟩ := hr.bound
  go_enter Tryd.func59, Tryd.ntmps59
  go_wp2_with fail
  refine (DevG.blocks_w d lo n m D _ k).mono ?_
  rintro e w' ⟨rfl, rfl⟩
  go_wp2_with fail
  refine (GeoW.of_good D.blocks _ h1 h2).mono ?_
  rintro e w1 ⟨rfl, hb1⟩
  have k1 := k.below hb1
  have hhf := GeoW.half_le D.blocks
  have z1 := hb1.size
  have b2 := (Below.refl w1.heap.size w1).alloc (Nat.le_refl _) (.cells #[.int .i64 D.blocks, .int .i64 (GeoW.half D.blocks)] 116)
  have hz2 : (w1.alloc (.cells #[.int .i64 D.blocks, .int .i64 (GeoW.half D.blocks)] 116)).heap.size = w1.heap.size + 1 := by simp
  have HA := hid (made_at (k1.below b2) h1 h2 (by omega))
  have b3 := ((b2.alloc (by omega) (.map #[] 0)).alloc (by simp; omega) (.map #[] 0)).alloc (by simp; omega) (.cells (acells d D.blocks (GeoW.half D.blocks) (w1.heap.size + 1) (w1.heap.size + 2) (D.blocks - 1)) 148)
  have B3 := hid (hb1.trans (b3.mono z1))
  have G3 : (((((w1.alloc (.cells #[.int .i64 D.blocks, .int .i64 (GeoW.half D.blocks)] 116)).alloc (.map #[] 0)).alloc (.map #[] 0)).alloc (.cells (acells d D.blocks (GeoW.half D.blocks) (w1.heap.size + 1) (w1.heap.size + 2) (D.blocks - 1)) 148))).heap[w1.heap.size]? = some (.cells #[.int .i64 D.blocks, .int .i64 (GeoW.half D.blocks)] 116) := alloc_old (alloc_old (alloc_old (alloc_at rfl _)))
  rw [hz2] at HA
  have hl1 : ((D.blocks - 1 : Nat) : Int) = (D.blocks : Int) - 1 := by omega
  simp only [acells, hl1] at HA B3 G3
  have hd := fun (i : Int) (wz : World) (hi : Fits i) => data_w D.blocks i wz h2 hi
  have HR := hid hr
  have HF := hid hfit
  have HFA := hid hf
  have HEN := hid hend
  have HB := hid hB
  clear b3 b2 hb1 k1 hz2 hr hfit hf hend k hB
  generalize hH : GeoW.half D.blocks = H at *
  have HH := hid hH
  clear hH hhf
  go_wp2_with fail
  rw [show w1.heap.size + 1 + 2 = w1.heap.size + 1 + 1 + 1 from rfl] at HA
  have hu0 : w1.heap.size + 1 ≠ w1.heap.size := by omega
  have hu1 : w.heap.size ≤ w1.heap.size + 1 := by omega
  generalize w1.heap.size + 1 + 1 + 1 = ar at *
  generalize w1.heap.size + 1 + 1 = q at *
  generalize w1.heap.size + 1 = u at *
  generalize (((w1.alloc (.cells #[.int .i64 D.blocks, .int .i64 H] 116)).alloc (.map #[] 0)).alloc (.map #[] 0)).alloc (.cells #[ptr d, .int .i64 D.blocks, .int .i64 H, .map (some u), .map (some q), .int .i64 ((D.blocks : Int) - 1)] 148) = w3 at *
  generalize w1.heap.size = gB at *
  go_loopw [31] (fun iv wr => ∃ j : Nat, j ≤ K ∧ iv = .int .i64 (j : Int) ∧ AAt wr lo d (n + j) m D ar u q (taken D.blocks rs j) ∧ wr.heap[gB]? = some (.cells #[.int .i64 D.blocks, .int .i64 H] 116) ∧ Below w.heap.size w wr) (fun iv _ => len + 1 - (RowKit.intOf iv).toNat)
  case atStart => exact ⟨0, by omega, rfl, HA.out, G3, B3.out⟩
  case round =>
    clear G3 HA B3
    obtain ⟨j, hj, rfl, hA, hG, hb⟩ := hrel
    have HBW := hid hb
    by_cases hjl : j < len
    · obtain ⟨b0, o0, rfl, e0, e1⟩ := (HR.out.below hb).at (j := j) (by omega)
      have hx := HF.out j hjl
      rw [plc_at (by omega)] at hx
      have HPL := hid (plc_at (rs := rs) (j := j) (by omega))
      generalize rs[j].1 = x at *
      generalize rs[j].2 = y at *
      have bx := (Below.refl wr.heap.size wr).alloc (Nat.le_refl _) (.cells #[.int .i64 x, .int .u32 (y : Int)] 32)
      obtain ⟨y0, y1⟩ := new2 wr (.int .i64 x) (.int .u32 (y : Int)) 32
      have A4 := hid (hA.below bx)
      have r4 : cells2 wr.heap.size (.int .i64 x) (.int .u32 (y : Int)) (wr.alloc (.cells #[.int .i64 x, .int .u32 (y : Int)] 32)) := heap_alloc_new _ _
      have hg4 := (bx.block gB (Array.getElem?_eq_some_iff.1 hG).1).trans hG
      obtain ⟨g0, g1⟩ : (wr.alloc (.cells #[.int .i64 x, .int .u32 (y : Int)] 32)).cell? ⟨gB, 0, none⟩ = some (.int .i64 D.blocks) ∧ (wr.alloc (.cells #[.int .i64 x, .int .u32 (y : Int)] 32)).cell? ⟨gB, 1, none⟩ = some (.int .i64 H) := by simp [World.cell?, hg4]
      have HG4 := hid hg4
      have R4 := hid r4
      have B4 := hid (hb.alloc hb.size (.cells #[.int .i64 x, .int .u32 (y : Int)] 32))
      have hru : wr.heap.size ≠ u := by have := hA.ult; omega
      obtain ⟨c0, c1, c2, c3, c4, c5, f4, f5⟩ := A4.out.c
      clear hA hb hG bx r4 hg4
      go_upto_region 8 with fail
      generalize hW : wr.alloc (.cells #[.int .i64 x, .int .u32 (y : Int)] 32) = w4 at *
      generalize htb : wr.heap.size = tb at *
      clear hW
      have hdx := fun wz => hd x wz hx
      cases hdt : isData D.blocks x with
      | false =>
        have hdf : decide (2 * (H : Int) ≤ x ∧ x < D.blocks) = false := by rw [← HH.out]; exact hdt
        rw [hdf] at hdx
        refine wp_region_held_drew (S := fun w' => w'.cell? ⟨gB, 0, none⟩ = some (.int .i64 D.blocks) ∧ w'.cell? ⟨gB, 1, none⟩ = some (.int .i64 H) ∧ w'.cell? ⟨tb, 0, none⟩ = some (.int .i64 x)) (by kernel_rfl) ⟨g0, g1, y0⟩ (fun hHeld => ?_)
        refine wpAnyH_take (i := 0) (v := .agg #[.int .i64 D.blocks, .int .i64 H]) (by simp only [List.getElem?_toArray, List.getElem?_cons_zero]; rfl) (by kernel_rfl) (by kernel_rfl) (by kernel_rfl) (by exact fun _ _ _ h => h) (Or.inl ⟨by rfl, ?_⟩) (by assumption) ?_
        · intro w hSw
          go_simp
        simp only [Act.put, List.setIfInBounds_toArray, List.set_cons_zero, List.set_cons_succ]
        refine wpAnyH_take (i := 1) (v := .pointer (some ⟨tb, 0, none⟩)) (by simp only [List.getElem?_toArray, List.getElem?_cons_zero, List.getElem?_cons_succ]; rfl) (by kernel_rfl) (by kernel_rfl) (by kernel_rfl) (by exact fun _ _ _ h => h) (Or.inl ⟨by rfl, ?_⟩) (by assumption) ?_
        · intro w hSw
          go_simp
        simp only [Act.put, List.setIfInBounds_toArray, List.set_cons_zero, List.set_cons_succ]
        refine wpAnyH_take (i := 2) (v := .int .i64 x) (by simp only [List.getElem?_toArray, List.getElem?_cons_zero, List.getElem?_cons_succ]; rfl) (by kernel_rfl) (by kernel_rfl) (by kernel_rfl) (by exact fun _ _ _ h => h) (Or.inl ⟨by rfl, ?_⟩) (by assumption) ?_
        · intro w hSw
          go_simp
        simp only [Act.put, List.setIfInBounds_toArray, List.set_cons_zero, List.set_cons_succ]
        refine wpAnyH_ready (rs := [3]) (by kernel_rfl) (by simp) ?_
        refine AllReadyH.cons (by simp only [List.getElem?_toArray, List.getElem?_cons_zero, List.getElem?_cons_succ]; rfl) (fun K0 hK => ?_) AllReadyH.nil
        go_simp
        refine (hdx _).mono ?_
        rintro e w5 ⟨rfl, b5⟩
        go_wp2_with fail
        refine hK.out _ _ ⟨kept b5 g0, kept b5 g1, kept b5 y0⟩ (fun hHeld => ?_)
        clear hK K0
        refine wpAnyH_take (i := 4) (v := .bool true) (by simp only [List.getElem?_toArray, List.getElem?_cons_zero, List.getElem?_cons_succ]; rfl) (by kernel_rfl) (by kernel_rfl) (by kernel_rfl) (by exact fun _ _ _ h => h) (Or.inl ⟨by rfl, ?_⟩) (by assumption) ?_
        · intro w hSw
          go_simp
        simp only [Act.put, List.setIfInBounds_toArray, List.set_cons_zero, List.set_cons_succ]
        refine wpAnyH_take (i := 5) (v := .bool true) (by simp only [List.getElem?_toArray, List.getElem?_cons_zero, List.getElem?_cons_succ]; rfl) (by kernel_rfl) (by kernel_rfl) (by kernel_rfl) (by exact fun _ _ _ h => h) (Or.inl ⟨by rfl, ?_⟩) (by assumption) ?_
        · intro w hSw
          go_simp
        simp only [Act.put, List.setIfInBounds_toArray, List.set_cons_zero, List.set_cons_succ]
        refine wpAnyH_take (i := 6) (v := undef) (by simp only [List.getElem?_toArray, List.getElem?_cons_zero, List.getElem?_cons_succ]; rfl) (by kernel_rfl) (by kernel_rfl) (by kernel_rfl) (by exact fun _ _ _ h => h) (Or.inr ⟨by rfl, rfl⟩) (by assumption) ?_
        simp only [Act.put, List.setIfInBounds_toArray, List.set_cons_zero, List.set_cons_succ]
        refine wpAnyH_take (i := 7) (v := undef) (by simp only [List.getElem?_toArray, List.getElem?_cons_zero, List.getElem?_cons_succ]; rfl) (by kernel_rfl) (by kernel_rfl) (by kernel_rfl) (by exact fun _ _ _ h => h) (Or.inr ⟨by rfl, rfl⟩) (by assumption) ?_
        simp only [Act.put, List.setIfInBounds_toArray, List.set_cons_zero, List.set_cons_succ]
        refine wpAnyH_take (i := 8) (v := undef) (by simp only [List.getElem?_toArray, List.getElem?_cons_zero, List.getElem?_cons_succ]; rfl) (by kernel_rfl) (by kernel_rfl) (by kernel_rfl) (by exact fun _ _ _ h => h) (Or.inr ⟨by rfl, rfl⟩) (by assumption) ?_
        simp only [Act.put, List.setIfInBounds_toArray, List.set_cons_zero, List.set_cons_succ]
        refine wpAnyH_take (i := 9) (v := undef) (by simp only [List.getElem?_toArray, List.getElem?_cons_zero, List.getElem?_cons_succ]; rfl) (by kernel_rfl) (by kernel_rfl) (by kernel_rfl) (by exact fun _ _ _ h => h) (Or.inr ⟨by rfl, rfl⟩) (by assumption) ?_
        simp only [Act.put, List.setIfInBounds_toArray, List.set_cons_zero, List.set_cons_succ]
        refine wpAnyH_take (i := 10) (v := undef) (by simp only [List.getElem?_toArray, List.getElem?_cons_zero, List.getElem?_cons_succ]; rfl) (by kernel_rfl) (by kernel_rfl) (by kernel_rfl) (by exact fun _ _ _ h => h) (Or.inr ⟨by rfl, rfl⟩) (by assumption) ?_
        simp only [Act.put, List.setIfInBounds_toArray, List.set_cons_zero, List.set_cons_succ]
        refine wpAnyH_take (i := 11) (v := undef) (by simp only [List.getElem?_toArray, List.getElem?_cons_zero, List.getElem?_cons_succ]; rfl) (by kernel_rfl) (by kernel_rfl) (by kernel_rfl) (by exact fun _ _ _ h => h) (Or.inr ⟨by rfl, rfl⟩) (by assumption) ?_
        simp only [Act.put, List.setIfInBounds_toArray, List.set_cons_zero, List.set_cons_succ]
        refine wpAnyH_take (i := 12) (v := undef) (by simp only [List.getElem?_toArray, List.getElem?_cons_zero, List.getElem?_cons_succ]; rfl) (by kernel_rfl) (by kernel_rfl) (by kernel_rfl) (by exact fun _ _ _ h => h) (Or.inr ⟨by rfl, rfl⟩) (by assumption) ?_
        simp only [Act.put, List.setIfInBounds_toArray, List.set_cons_zero, List.set_cons_succ]
        refine wpAnyH_take (i := 13) (v := undef) (by simp only [List.getElem?_toArray, List.getElem?_cons_zero, List.getElem?_cons_succ]; rfl) (by kernel_rfl) (by kernel_rfl) (by kernel_rfl) (by exact fun _ _ _ h => h) (Or.inr ⟨by rfl, rfl⟩) (by assumption) ?_
        simp only [Act.put, List.setIfInBounds_toArray, List.set_cons_zero, List.set_cons_succ]
        refine wpAnyH_take (i := 14) (v := .bool true) (by simp only [List.getElem?_toArray, List.getElem?_cons_zero, List.getElem?_cons_succ]; rfl) (by kernel_rfl) (by kernel_rfl) (by kernel_rfl) (by exact fun _ _ _ h => h) (Or.inl ⟨by rfl, ?_⟩) (by assumption) ?_
        · intro w hSw
          go_simp
        simp only [Act.put, List.setIfInBounds_toArray, List.set_cons_zero, List.set_cons_succ]
        refine wpAnyH_done (by kernel_rfl) ?_ _
        have B5 := hid (B4.out.trans (((Below.refl w4.heap.size w4).drew.trans b5).mono B4.out.size))
        have hKj : K = j ∧ K ≠ len := by
          have : ¬ j < K := fun h => by have := HFA.out j h; unfold fair at this; rw [HPL.out, hdt] at this; cases this
          omega
        obtain ⟨aR, haR, hAR⟩ := (HB.out.turn (S := []) (Turn.of_below B5.out) (by simp)).get 2 _ (by decide) rfl
        have hA1 := hAR.1
        clear b5 hAR hHeld g0 g1 y0 y1 c0 c1 c2 c3 c4 c5 f4 f5 hdx
        go_wp2_with fail
        go_quiet (fail)
        go_wp2_with fail
        refine bodyPost_ret (v := .tuple #[.pointer none, ev aR]) (by simp [results, Tryd.results59, go_sem]) rfl ⟨?_, below_drewN B5.out _⟩
        rw [if_neg hKj.2]
        exact ⟨aR, haR, rfl⟩
      | true =>
        have hdf : decide (2 * (H : Int) ≤ x ∧ x < D.blocks) = true := by rw [← HH.out]; exact hdt
        rw [hdf] at hdx
        cases hus : (taken D.blocks rs j).used x with
        | true =>
          have hKj : K = j ∧ K ≠ len := by
            have : ¬ j < K := fun h => by have := HFA.out j h; unfold fair at this; rw [HPL.out, hdt, hus] at this; cases this
            omega
          go_region_held3 (fun w' => w'.cell? ⟨gB, 0, none⟩ = some (.int .i64 D.blocks) ∧ w'.cell? ⟨gB, 1, none⟩ = some (.int .i64 H) ∧ w'.cell? ⟨tb, 0, none⟩ = some (.int .i64 x) ∧ w'.cell? ⟨ar, 3, none⟩ = some (.map (some u)))
            (first | exact ⟨g0, g1, y0, c3⟩ | exact ⟨h0, h1', z0, d3⟩ | go_keep)
            ((go_at_call 103; refine (hdx _).mono ?_; rintro e w5 ⟨rfl, b5⟩; have A5 := (A4.out.below (below_drewN (Below.refl _ _) 1)).below b5; have lk := A5.mu.look1 hx hus; have h0 := kept b5 g0; have h1' := kept b5 g1; have z0 := kept b5 y0; have d3 := kept b5 c3))
          have B5 := hid (B4.out.trans (((below_drewN (Below.refl w4.heap.size w4) 1).trans b5).mono B4.out.size))
          obtain ⟨aR, haR, hAR⟩ := (HB.out.turn (S := []) (Turn.of_below B5.out) (by simp)).get 2 _ (by decide) rfl
          have hA1 := hAR.1
          clear b5 hAR g0 g1 y0 y1 c0 c1 c2 c3 c4 c5 f4 f5 hdx lk h0 h1' z0 d3 A5
          go_wp2_with fail
          go_quiet (fail)
          go_wp2_with fail
          refine bodyPost_ret (v := .tuple #[.pointer none, ev aR]) (by simp [results, Tryd.results59, go_sem]) rfl ⟨?_, below_drewN B5.out _⟩
          rw [if_neg hKj.2]
          exact ⟨aR, haR, rfl⟩
        | false =>
          go_region_held3 (fun w' => w'.cell? ⟨gB, 0, none⟩ = some (.int .i64 D.blocks) ∧ w'.cell? ⟨gB, 1, none⟩ = some (.int .i64 H) ∧ w'.cell? ⟨tb, 0, none⟩ = some (.int .i64 x) ∧ w'.cell? ⟨ar, 3, none⟩ = some (.map (some u)))
            (first | exact ⟨g0, g1, y0, c3⟩ | exact ⟨h0, h1', z0, d3⟩ | go_keep)
            ((go_at_call 103; refine (hdx _).mono ?_; rintro e w5 ⟨rfl, b5⟩; have A5 := (A4.out.below (below_drewN (Below.refl _ _) 1)).below b5; have lk := A5.mu.look0 hx hus; have h0 := kept b5 g0; have h1' := kept b5 g1; have z0 := kept b5 y0; have d3 := kept b5 c3))
          have B5 := hid (B4.out.trans (((below_drewN (Below.refl w4.heap.size w4) 1).trans b5).mono B4.out.size))
          have hjK : j < K := by
            rcases Nat.lt_or_ge j K with h | h
            · exact h
            · have hjK : j = K := by omega
              have := HEN.out (by omega)
              unfold fair at this
              rw [← hjK, HPL.out, hdt, hus] at this
              cases this
          have r5 : cells2 tb (.int .i64 x) (.int .u32 (y : Int)) w5 := ((Below.drew (Below.refl w4.heap.size w4)).trans b5 |>.block tb (Array.getElem?_eq_some_iff.1 R4.out).1).trans R4.out
          have hg5 := ((Below.drew (Below.refl w4.heap.size w4)).trans b5 |>.block gB (Array.getElem?_eq_some_iff.1 HG4.out).1).trans HG4.out
          have A5' := hid A5
          clear b5 g0 g1 y0 y1 c0 c1 c2 c3 c4 c5 f4 f5 hdx lk h0 h1' z0 d3 A5
          obtain ⟨c0, c1, c2, c3, c4, c5, f4, f5⟩ := A5'.out.c
          obtain ⟨y0, y1, _, _⟩ := RootW.blk_c r5
          have R5 := hid r5
          have HG5 := hid hg5
          clear r5 hg5
          go_upto_region 10 with fail
          go_still_tail 6, (by kernel_rfl)
          change wpList _ _ _ _ _ w5.drew
          refine wpList_putNum _ rfl _ _ _ rfl (A5'.out.below (Below.refl _ _).drew).mu (by omega) hx rfl rfl rfl ?_
          intro w6 hr6 hg6
          obtain ⟨A6, t6⟩ := (A5'.out.below (Below.refl _ _).drew).setU hg6 hr6 (Nat.le_succ _)
          have hg6' : w6.heap[gB]? = some (.cells #[.int .i64 D.blocks, .int .i64 H] 116) := t6.cells (show w5.drew.heap[gB]? = _ from HG5.out) (by simp; omega)
          have B6 := hid (B5.out.drew.trans (t6.below B5.out.size (by simp; omega)))
          have HA6 : Hid (AAt w6 lo d (n + (j + 1)) m D ar u q (taken D.blocks rs (j + 1))) := by
            show AAt w6 lo d (n + (j + 1)) m D ar u q ((taken D.blocks rs j).use (plc rs j))
            rw [HPL.out]
            exact A6
          have HG6 := hid hg6'
          clear c0 c1 c2 c3 c4 c5 f4 f5 y0 y1 hr6 hg6 t6 A6 hg6'
          go_wp2_with fail
          go_roundw
          case rel => exact ⟨j + 1, by omega, by go_num, HA6.out, HG6.out, B6.out⟩
          case measure => simp [RowKit.intOf]; omega
    · obtain rfl : j = len := by omega
      obtain rfl : K = j := by omega
      go_wp2_with fail
      refine bodyPost_ret (v := .tuple #[ptr ar, .nilIface]) (by simp [results, Tryd.results59, go_sem]) rfl ⟨?_, hb⟩
      rw [if_pos rfl]
      exact ⟨ar, u, q, rfl, hA⟩
end Go.Proofs.YtagbnacffiagcaaDoor.BlobW
