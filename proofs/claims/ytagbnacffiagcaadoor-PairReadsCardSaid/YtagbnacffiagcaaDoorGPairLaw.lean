/- What the laws on pairs begin with: a block, pairs on a new device. -/
import Derived.Test.YtagbnacffiagcaaDoorGPairWrite
import Derived.Test.YtagbnacffiagcaaDoorFull
import Derived.Test.YtagbnacffiagcaaDoorGDevFlush
import Derived.Test.YtagbnacffiagcaaDoorGeoOf
namespace Go.Proofs.YtagbnacffiagcaaDoor.PairG
open Go Go.RowKit Go.Maps Go.Proofs.YtagbnacffiagcaaDoor.Mem Go.Proofs.YtagbnacffiagcaaDoor.MapsW Go.Proofs.YtagbnacffiagcaaDoor.SeeW Go.Proofs.YtagbnacffiagcaaDoor.DevG Go.Proofs.YtagbnacffiagcaaDoor.BlobW
set_option linter.unusedVariables false
set_option maxRecDepth 100000

theorem block_w (a : Option Addr) (n cap : Nat) (l : List Nat) (w : World) (h0 : Nums .u8 w a n cap l) (hn : n ≤ 256) :
    Calls Tryd.prog 13 #[.slice a n cap] w (NewBlock w (Crc.pad l)) := by
  go_enter Tryd.func13, Tryd.ntmps13
  go_wp2_with fail
  refine (full_w a n cap l _ h0 hn).mono ?_
  rintro e w' ⟨g, gc, rfl, h1, h2, h3⟩
  go_wp2
  go_ret
  exact ⟨g, gc, rfl, h1, h2, h3⟩

/-- pairs on a new device -/
def Opened (b : Nat) (w : World) (e : Ending) (w' : World) : Prop := ∃ p, e = .returned (.tuple #[ptr p, ptr (w.heap.size + 5)]) ∧ PAt w' w.heap.size (w.heap.size + 5) 0 (mp w.heap.size) (Dv.new b) p (GeoW.half b) 0 ∧ Below w.heap.size w w'
set_option maxHeartbeats 1600000 in
theorem popen_w (b : Nat) (lo d n : Nat) (m : Mp) (D : Dv) (w : World) (k : At w lo d n m D) (h1 : 300 ≤ D.blocks) (h2 : D.blocks ≤ 6000) (hlo : lo ≤ w.heap.size) (hu : D.down = false) (hz : D.fuse = 0) :
    Calls Tryd.prog 71 #[ptr d] w fun e w' => ∃ p, e = .returned (.tuple #[ptr p, .nilIface]) ∧ PAt w' lo d n m D p (GeoW.half D.blocks) 0 ∧ Below w.heap.size w w' := by
  go_enter Tryd.func71, Tryd.ntmps71
  go_wp2_with fail
  refine (DevG.blocks_w d lo n m D _ k).mono ?_
  rintro e w' ⟨rfl, rfl⟩
  go_wp2_with fail
  refine (GeoW.of_good D.blocks _ h1 h2).mono ?_
  rintro e w1 ⟨rfl, hb1⟩
  have k1 := k.below hb1
  have hhf := GeoW.half_le D.blocks
  have z1 := hb1.size
  go_wp2
  have bb : ∀ o o', Below w1.heap.size w1 ((w1.alloc o).alloc o') := fun o o' => ((Below.refl _ w1).alloc (Nat.le_refl _) o).alloc (by simp) o'
  refine bodyPost_ret (v := .tuple #[ptr (w1.heap.size + 1), .nilIface]) (by simp [results, Tryd.results71, go_sem]) rfl ⟨w1.heap.size + 1, rfl, ⟨k1.below (bb _ _), alloc_at (by simp) _, hhf, h2, by omega, hu, hz⟩, hb1.trans ((bb _ _).mono z1)⟩

set_option maxHeartbeats 1600000 in
theorem opened_w (b : Nat) (w : World) (h1 : 300 ≤ b) (h2 : b ≤ 6000) :
    Calls Tryd.prog 10 #[.int .i64 b] w (Opened b w) := by
  go_enter Tryd.func10, Tryd.ntmps10
  go_wp2_with fail
  refine (DevG.new_w b _ (by omega) h2).mono ?_
  rintro e w1 ⟨rfl, k1, hb1, hs1⟩
  go_wp2_with fail
  refine (popen_w b _ _ _ _ _ _ k1 h1 h2 (by omega) rfl rfl).mono ?_
  rintro e w2 ⟨p, rfl, k2, hb2⟩
  go_wp2
  refine bodyPost_ret (v := .tuple #[ptr p, ptr (w.heap.size + 5)]) (by simp [results, Tryd.results10, go_sem]) rfl ⟨p, rfl, k2, hb1.trans (hb2.mono (by omega))⟩

end Go.Proofs.YtagbnacffiagcaaDoor.PairG
