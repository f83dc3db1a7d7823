/- Has a block some bytes? -/
import Derived.Test.YtagbnacffiagcaaDoorGPairLaw
namespace Go.Proofs.YtagbnacffiagcaaDoor.PairG
open Go Go.RowKit Go.Maps Go.Proofs.YtagbnacffiagcaaDoor.Mem Go.Proofs.YtagbnacffiagcaaDoor.MapsW Go.Proofs.YtagbnacffiagcaaDoor.SeeW Go.Proofs.YtagbnacffiagcaaDoor.DevG Go.Proofs.YtagbnacffiagcaaDoor.BlobW
set_option linter.unusedVariables false
set_option maxRecDepth 100000

set_option maxHeartbeats 1600000 in
/-- has a block these bytes? -/
theorem good_w (bs : List Addr) (d lo n : Nat) (m : Mp) (D : Dv) (i : Nat) (a : Option Addr) (len cap : Nat) (l : List Nat) (w : World) (h : At w lo d n m D) (hB : Ev w lo bs five) (hi : i < D.blocks) (hb : D.blocks ≤ 6000) (hl : Nums .u8 w a len cap l) (hu : D.down = false) :
    Calls Tryd.prog 18 #[ptr d, .int .i64 i, .slice a len cap] w fun e w' => e = .returned (.bool (decide (D.read i = some l))) ∧ Below w.heap.size w w' := by
  have hr := read_up bs d lo n m D i w h hB (fits_nat (by omega)) hu (by omega)
  cases hD : D.read i with
  | none =>
    rw [hD] at hr
    go_enter Tryd.func18, Tryd.ntmps18
    go_wp2_with fail
    refine hr.mono ?_
    rintro e w1 ⟨⟨aI, haI, rfl⟩, hb1⟩
    go_wp2
    go_ret
    exact ⟨ret_bool (by simp), hb1⟩
  | some l' =>
    rw [hD] at hr
    go_enter Tryd.func18, Tryd.ntmps18
    go_wp2_with fail
    refine hr.mono ?_
    rintro e w1 ⟨⟨g, gc, rfl, hn, hg⟩, hb1⟩
    have z1 := hb1.size
    go_wp2_with fail
    refine (RefW.same_w _ 256 gc l' a len cap l _ hn (hl.below hb1)).mono ?_
    rintro e w2 ⟨rfl, hb2⟩
    go_wp2
    go_ret
    exact ⟨ret_bool (by simp), hb1.trans (hb2.mono z1)⟩
end Go.Proofs.YtagbnacffiagcaaDoor.PairG
