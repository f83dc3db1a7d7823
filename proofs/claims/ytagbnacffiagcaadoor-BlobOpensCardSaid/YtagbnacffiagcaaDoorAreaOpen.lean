/- The walks of blob's Open, on a new device. -/
import Derived.Test.YtagbnacffiagcaaDoorAreaMore
import Derived.Test.YtagbnacffiagcaaDoorAreaFull
import Derived.Test.YtagbnacffiagcaaDoorAreaGet
namespace Go.Proofs.YtagbnacffiagcaaDoor.BlobW
open Go Go.RowKit Go.Maps Go.Proofs.YtagbnacffiagcaaDoor.Mem Go.Proofs.YtagbnacffiagcaaDoor.MapsW Go.Proofs.YtagbnacffiagcaaDoor.SeeW Go.Proofs.YtagbnacffiagcaaDoor.DevG
set_option linter.unusedVariables false
set_option maxRecDepth 100000

/-- an area of which nothing is in use -/
def Ar.none (b : Nat) : Ar := ⟨fun _ => false, fun _ => false, 0, 0, b - 1⟩
theorem made_at {lo d n : Nat} {m : Mp} {D : Dv} {W : World} (k : At W lo d n m D) (h1 : 300 ≤ D.blocks) (h2 : D.blocks ≤ 6000) (hlo : lo ≤ W.heap.size) :
    AAt (((W.alloc (.map #[] 0)).alloc (.map #[] 0)).alloc (.cells (acells d D.blocks (GeoW.half D.blocks) W.heap.size (W.heap.size + 1) (D.blocks - 1)) 148)) lo d n m D (W.heap.size + 2) W.heap.size (W.heap.size + 1) (Ar.none D.blocks) := by
  have old := k.old
  have e1 : (W.alloc (.map #[] 0)).heap.size = W.heap.size + 1 := by simp
  have e2 : ((W.alloc (.map #[] 0)).alloc (.map #[] 0)).heap.size = W.heap.size + 2 := by simp
  have b1 := (Below.refl W.heap.size W).alloc (Nat.le_refl _) (.map #[] 0)
  have b2 := b1.alloc (by omega) (.map #[] 0)
  have b3 := b2.alloc (by omega) (.cells (acells d D.blocks (GeoW.half D.blocks) W.heap.size (W.heap.size + 1) (D.blocks - 1)) 148)
  have mu := NumMap.made W
  have mh := NumMap.made (W.alloc (.map #[] 0))
  rw [e1] at mh
  exact ⟨k.below b3, alloc_at e2 _, (mu.still ((Below.heap_alloc _ _ _ (by omega)).trans (Below.heap_alloc _ _ _ (by omega)))).mono (Nat.zero_le n), (mh.still (Below.heap_alloc _ _ _ (by omega))).mono (Nat.zero_le n), by omega, fun hx => by have := old _ hx; omega, fun hx => by have := old _ hx; omega, by omega, hlo, by omega, h1, h2⟩
set_option maxHeartbeats 1600000 in
theorem aopen_w (lo d n : Nat) (m : Mp) (D : Dv) (w : World) (k : At w lo d n m D) (h1 : 300 ≤ D.blocks) (h2 : D.blocks ≤ 6000) (hlo : lo ≤ w.heap.size) :
    Calls Tryd.prog 59 #[ptr d, .slice none 0 0] w fun e w' => ∃ a u q, e = .returned (.tuple #[ptr a, .nilIface]) ∧ AAt w' lo d n m D a u q (Ar.none D.blocks) ∧ Below w.heap.size w w' := by
  have hmm := @run_makeMap Tryd.prog
  go_enter Tryd.func59, Tryd.ntmps59
  go_wp2_with fail
  refine (DevG.blocks_w d lo n m D _ k).mono ?_
  rintro e w' ⟨rfl, rfl⟩
  go_wp2_with fail
  refine (GeoW.of_good D.blocks _ h1 h2).mono ?_
  rintro e w1 ⟨rfl, hb1⟩
  have k1 := k.below hb1
  have hhf := GeoW.half_le D.blocks
  have z1 := hb1.size
  have b2 := (Below.refl w1.heap.size w1).alloc (Nat.le_refl _) (.cells #[.int .i64 D.blocks, .int .i64 (GeoW.half D.blocks)] 116)
  have hz2 : (w1.alloc (.cells #[.int .i64 D.blocks, .int .i64 (GeoW.half D.blocks)] 116)).heap.size = w1.heap.size + 1 := by simp
  have HA := hid (made_at (k1.below b2) h1 h2 (by omega))
  have b3 := ((b2.alloc (by omega) (.map #[] 0)).alloc (by simp; omega) (.map #[] 0)).alloc (by simp; omega) (.cells (acells d D.blocks (GeoW.half D.blocks) (w1.heap.size + 1) (w1.heap.size + 2) (D.blocks - 1)) 148)
  have B3 := hid (hb1.trans (b3.mono z1))
  rw [hz2] at HA
  have hl1 : ((D.blocks - 1 : Nat) : Int) = (D.blocks : Int) - 1 := by omega
  simp only [acells, hl1] at HA B3
  clear b3 b2 hb1 k1 hz2
  generalize hH : GeoW.half D.blocks = H at *
  go_wp2_with fail
  go_loopw [31] (fun iv wr => iv = .int .i64 0 ∧ wr = (((w1.alloc (.cells #[.int .i64 D.blocks, .int .i64 H] 116)).alloc (.map #[] 0)).alloc (.map #[] 0)).alloc (.cells #[ptr d, .int .i64 D.blocks, .int .i64 H, .map (some (w1.heap.size + 1)), .map (some (w1.heap.size + 2)), .int .i64 ((D.blocks : Int) - 1)] 148)) (fun iv _ => 0)
  case atStart => exact ⟨rfl, rfl⟩
  case round =>
    obtain ⟨rfl, rfl⟩ := hrel
    go_wp2_with fail
    refine bodyPost_ret (v := .tuple #[ptr (w1.heap.size + 1 + 2), .nilIface]) (by simp [results, Tryd.results59, go_sem]) rfl ⟨w1.heap.size + 1 + 2, w1.heap.size + 1, w1.heap.size + 1 + 1, rfl, HA.out, B3.out⟩
/-- an area on a new device -/
def Opened (b : Nat) (w : World) (e : Ending) (w' : World) : Prop := ∃ a u q, e = .returned (.tuple #[ptr a, ptr (w.heap.size + 5)]) ∧ AAt w' w.heap.size (w.heap.size + 5) 0 (mp w.heap.size) (Dv.new b) a u q (Ar.none b) ∧ Below w.heap.size w w'
set_option maxHeartbeats 1600000 in
theorem opened_w (b : Nat) (w : World) (h1 : 300 ≤ b) (h2 : b ≤ 6000) :
    Calls Tryd.prog 63 #[.int .i64 b, .slice none 0 0] w (Opened b w) := by
  go_enter Tryd.func63, Tryd.ntmps63
  go_wp2_with fail
  refine (new_w b _ (by omega) h2).mono ?_
  rintro e w1 ⟨rfl, k1, b1, z1⟩
  go_wp2_with fail
  refine (aopen_w _ _ _ _ _ w1 k1 h1 h2 b1.size).mono ?_
  rintro e w2 ⟨a, u, q, rfl, hA, b2⟩
  go_wp2_with fail
  refine bodyPost_ret (v := .tuple #[ptr a, ptr (w.heap.size + 5)]) (by simp [results, Tryd.results63, go_sem]) rfl ⟨a, u, q, rfl, hA, b1.trans (b2.mono b1.size)⟩
end Go.Proofs.YtagbnacffiagcaaDoor.BlobW
