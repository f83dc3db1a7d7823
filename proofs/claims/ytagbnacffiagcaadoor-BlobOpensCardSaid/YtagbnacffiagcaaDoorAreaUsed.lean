/- The walks of blob's Used, and of Low where nothing is low enough. -/
import Derived.Test.YtagbnacffiagcaaDoorAreaMore
import Derived.Test.YtagbnacffiagcaaDoorNKeys
import Derived.Test.YtagbnacffiagcaaDoorIntsRow
namespace Go.Proofs.YtagbnacffiagcaaDoor.BlobW
open Go Go.RowKit Go.Maps Go.Proofs.YtagbnacffiagcaaDoor.Mem Go.Proofs.YtagbnacffiagcaaDoor.MapsW Go.Proofs.YtagbnacffiagcaaDoor.SeeW Go.Proofs.YtagbnacffiagcaaDoor.DevG Go.Proofs.YtagbnacffiagcaaDoor.Ints
set_option linter.unusedVariables false
set_option maxRecDepth 100000

set_option maxHeartbeats 1600000 in
theorem used_w (lo d n : Nat) (m : Mp) (D : Dv) (a u k : Nat) (A : Ar) (w : World) (h : AAt w lo d n m D a u k A) (hn : A.nu ≤ 100000) :
    Calls Tryd.prog 61 #[ptr a] w fun e w' => ∃ s c ks, e = .returned (.slice s ks.length c) ∧ NKeys A.used ks ∧ ks.length = A.nu ∧ Is w' s ks.length c ks ∧ Below w.heap.size w w' := by
  obtain ⟨c0, c1, c2, c3, c4, c5, f4, f5⟩ := h.c
  have b1 := (Below.refl w.heap.size w).alloc (Nat.le_refl _) (.cells #[.map (some u)] 146)
  have hs := nkeys_sorted u n w.heap.size A.nu A.used (w.alloc (.cells #[.map (some u)] 146)) (by simp) (by simp) (h.below b1).mu (by omega)
  have HB := hid b1
  clear h b1 c0 c1 c2 c4 c5 f4 f5
  go_enter Tryd.func61, Tryd.ntmps61
  go_wp2_with fail
  refine (nkeys_w (some u) w).mono ?_
  rintro e w1 ⟨rfl, rfl⟩
  go_wp2_with fail
  refine hs.mono ?_
  rintro e w2 ⟨v, ks, rfl, hK, hkl, own2, b2⟩
  have B2 := hid (HB.out.trans (b2.mono (by simp)))
  obtain ⟨va, vc, rfl, hvr⟩ := ownsRow_slice own2
  have HK := hid hK
  have HL := hid hkl
  have HV := hid hvr
  clear hs hK own2 hvr b2 hkl
  go_wp2
  go_ret
  exact ⟨va, vc, ks, rfl, HK.out, HL.out, HV.out, B2.out⟩
set_option maxHeartbeats 1600000 in
/-- nothing is below -/
theorem low_none (lo d n : Nat) (m : Mp) (D : Dv) (a u k : Nat) (A : Ar) (s : Option Addr) (len cap : Nat) (b : Int) (w : World) (h : AAt w lo d n m D a u k A) (hlen : len ≤ 256) (hb : b ≤ (first D.blocks : Int)) (hf : Fits b) :
    Calls Tryd.prog 65 #[ptr a, .slice s len cap, .int .i64 b] w fun e w' => e = .returned (.tuple #[.agg #[.int .i64 0, .int .u32 0], .bool false, .nilIface]) ∧ Below w.heap.size w w' := by
  have hw := fun (w' : World) (hb : Below w.heap.size w w') => first_w lo d n m D a u k A w' (h.below hb)
  obtain ⟨c0, c1, c2, c3, c4, c5, f4, f5⟩ := h.c
  have hp := datas_pos h.b1
  have hb2 := h.b2
  have d1 : decide ((256 : Int) < (len : Int)) = false := decide_eq_false (by omega)
  have hfb : first D.blocks ≤ D.blocks := by unfold first; omega
  go_enter Tryd.func65, Tryd.ntmps65
  have b1 := (Below.refl w.heap.size w).alloc (Nat.le_refl _) (.cells #[.int .i64 0, .int .u32 0] 32)
  have r1 := heap_alloc_new w (.cells #[.int .i64 0, .int .u32 0] 32)
  have H1 := hid (h.below b1)
  have hw1 := hw _ b1
  have HB1 := hid b1
  have HZ := hid (show (w.alloc (.cells #[.int .i64 0, .int .u32 0] 32)).heap.size = w.heap.size + 1 by simp)
  clear h hw c0 c1 c2 c3 c4 c5 f4 f5 b1
  go_wp2_with fail
  refine hw1.mono ?_
  rintro e w2 ⟨rfl, b2⟩
  have H2 := H1.out.below b2
  have r2 := (b2.block w.heap.size (by rw [HZ.out]; omega)).trans r1
  have B2 := hid (HB1.out.trans (b2.mono HB1.out.size))
  obtain ⟨c0, c1, c2, c3, c4, c5, f4, f5⟩ := H2.c
  obtain ⟨x0, x1, y0, y1⟩ := RootW.blk_c r2
  have hm : ∀ x : Int, decide ((first D.blocks : Int) < min b (D.blocks : Int)) = false := fun _ => decide_eq_false (by omega)
  have HM := hid hm
  have hF := fun (u v : Value) => (B2.out.setCell (p := ⟨w.heap.size, 0, none⟩) (Nat.le_refl _) u).setCell (p := ⟨w.heap.size, 1, none⟩) (Nat.le_refl _) v
  have HF := hid hF
  clear hw1 b2 H2 r1 r2 H1 hm hF
  go_wp2_with fail
  go_loopw [9] (fun iv wr => iv = .int .i64 (first D.blocks : Nat) ∧ wr = w2) (fun iv _ => 0)
  case atStart => exact ⟨rfl, rfl⟩
  case round =>
    obtain ⟨rfl, rfl⟩ := hrel
    have hm := HM.out 0
    go_wp2_with fail
    refine bodyPost_ret (v := .tuple #[.agg #[.int .i64 0, .int .u32 0], .bool false, .nilIface]) (by simp [results, Tryd.results65, go_sem, x0, x1]) rfl ⟨rfl, HF.out _ _⟩
end Go.Proofs.YtagbnacffiagcaaDoor.BlobW
