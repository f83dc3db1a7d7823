/- The walk of blob's Put where nothing is free; of more bytes than a block has. -/
import Derived.Test.YtagbnacffiagcaaDoorAreaPut
namespace Go.Proofs.YtagbnacffiagcaaDoor.BlobW
open Go Go.RowKit Go.Maps Go.Proofs.YtagbnacffiagcaaDoor.Mem Go.Proofs.YtagbnacffiagcaaDoor.MapsW Go.Proofs.YtagbnacffiagcaaDoor.SeeW Go.Proofs.YtagbnacffiagcaaDoor.DevG
set_option linter.unusedVariables false
set_option maxRecDepth 100000

set_option maxHeartbeats 3200000 in
theorem put_full (bs : List Addr) (lo d n : Nat) (m : Mp) (D : Dv) (a u k : Nat) (A : Ar) (s : Option Addr) (len cap : Nat) (l : List Nat) (w : World) (h : AAt w lo d n m D a u k A) (hl : Nums .u8 w s len cap l) (hlen : len ≤ 256) (hL : first D.blocks ≤ A.last ∧ A.last < D.blocks) (hx : A.next D.blocks = none) (hB : Ev w lo bs [4]) :
    Calls Tryd.prog 62 #[ptr a, .slice s len cap] w fun e w' => (∃ x, bs[4]? = some x ∧ e = .returned (.tuple #[.agg #[.int .i64 0, .int .u32 0], ev x])) ∧ Below w.heap.size w w' := by
  have hprev := next_none hx
  have hll := hl.len
  have hb2 := h.b2
  have hp := datas_pos h.b1
  have b0 := (Below.refl w.heap.size w).alloc (Nat.le_refl _) (.cells #[.int .i64 0, .int .u32 0] 32)
  have H0 := hid (h.below b0)
  have hl0 := hl.below b0
  have r0 : cells2 w.heap.size (.int .i64 0) (.int .u32 0) (w.alloc (.cells #[.int .i64 0, .int .u32 0] 32)) := heap_alloc_new _ _
  have OLD := hid h.old
  have HB := hid hB
  obtain ⟨c0, c1, c2, c3, c4, c5, f4, f5⟩ := (h.below b0).c
  have hla : len ≤ 256 := hlen
  clear h hl hx
  go_enter Tryd.func62, Tryd.ntmps62
  go_wp2_with fail
  refine (datas_w D.blocks _ hb2).mono ?_
  rintro e w1 ⟨rfl, b1⟩
  have H1 := hid (H0.out.below b1)
  go_wp2_with fail
  refine (first_w lo d n m D a u k A _ H1.out).mono ?_
  rintro e w2 ⟨rfl, b2⟩
  have B2 := b1.trans (b2.mono b1.size)
  have H2 := hid (H0.out.below B2)
  have L2 := hid (hl0.below B2)
  have r2 : cells2 w.heap.size (.int .i64 0) (.int .u32 0) w2 := (B2.block _ (by simp)).trans r0
  have T2 := hid (b0.trans (B2.mono (by simp)))
  obtain ⟨c0, c1, c2, c3, c4, c5, f4, f5⟩ := H2.out.c
  have R2 := hid r2
  clear H0 H1 b1 b2 B2 r0 r2 b0 hl0
  have hN : datas D.blocks ≤ 6000 := by omega
  have hF : first D.blocks ≤ 6000 := by omega
  have hdat : ∀ j : Nat, j ≤ 6000 → ((A.last : Int) - (first D.blocks : Int) + 1 + (j : Int)).tmod (datas D.blocks : Int) = (((A.last - first D.blocks + 1 + j) % datas D.blocks : Nat) : Int) := fun j hj => by
    rw [show (A.last : Int) - (first D.blocks : Int) + 1 + (j : Int) = ((A.last - first D.blocks + 1 + j : Nat) : Int) by omega]
    rfl
  have HD := hid hdat
  have HP := hid hprev
  clear hdat hprev
  go_wp2_with fail
  go_loopw [25] (fun iv wr => ∃ j : Nat, j ≤ datas D.blocks ∧ iv = .int .i64 (j : Int) ∧ wr = w2) (fun iv _ => datas D.blocks - (intOf iv).toNat)
  case atStart => exact ⟨0, by omega, rfl, rfl⟩
  case round =>
    obtain ⟨j, hj, rfl, rfl⟩ := hrel
    have hsp := HD.out j (by omega)
    obtain ⟨s1, s2⟩ := spot_in (b := D.blocks) (last := A.last) (k := j) H2.out.b1
    have hfr := free_w lo d n m D a u k A (spot D.blocks A.last j : Nat) wr H2.out (fits_nat (by omega))
    have hse : (first D.blocks : Int) + (((A.last - first D.blocks + 1 + j) % datas D.blocks : Nat) : Int) = ((spot D.blocks A.last j : Nat) : Int) := by unfold spot; omega
    have hmo := Nat.mod_lt (A.last - first D.blocks + 1 + j) hp.1
    generalize (A.last - first D.blocks + 1 + j) % datas D.blocks = y at *
    by_cases hlt : j < datas D.blocks
    · rw [HP.out j hlt] at hfr
      generalize spot D.blocks A.last j = z at *
      go_wp2_with fail
      refine hfr.mono ?_
      rintro e w' ⟨rfl, rfl⟩
      go_wp2_with fail
      go_roundw
      case rel => exact ⟨j + 1, by omega, by go_num, trivial⟩
      case measure => simp [intOf]; omega
    · obtain rfl : j = datas D.blocks := by omega
      obtain ⟨x, hx, hX⟩ := HB.out.get 4 _ (by decide) rfl
      have hX1 := (hX.below T2.out).1
      have hg : (6 : Nat) < w.heap.size := World.block_lt_of_cell? w _ hX.1
      have hg1 : w.heap.size ≠ (6 : Nat) := by omega
      have hg2 : (6 : Nat) ≠ w.heap.size := by omega
      obtain ⟨x0, x1, f0, f1⟩ := RootW.blk_c R2.out
      clear hfr hse
      go_wp2_with fail
      go_region
      all_goals
        go_wp2
        refine bodyPost_ret (v := .tuple #[.agg #[.int .i64 0, .int .u32 0], ev x]) (by simp [results, Tryd.results62, go_sem, x0, x1]) rfl ⟨⟨x, hx, rfl⟩, ((T2.out.setCell (Nat.le_refl _) _).setCell (Nat.le_refl _) _).drew⟩
end Go.Proofs.YtagbnacffiagcaaDoor.BlobW
