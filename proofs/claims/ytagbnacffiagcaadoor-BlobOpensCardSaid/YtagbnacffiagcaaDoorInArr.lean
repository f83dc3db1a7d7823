/- An array of 300 bools in memory. -/
import Derived.Test.YtagbnacffiagcaaDoorRefWalk
import Derived.Test.YtagbnacffiagcaaDoorGDevNew
namespace Go.Proofs.YtagbnacffiagcaaDoor.BlobW
open Go Go.RowKit Go.Proofs.YtagbnacffiagcaaDoor.Mem Go.Proofs.YtagbnacffiagcaaDoor.DevG
set_option linter.unusedVariables false
set_option maxRecDepth 100000

/-- block b: the bools F -/
structure InA (w : World) (b : Nat) (F : Nat → Bool) : Prop where
  blk : ∃ cs, w.heap[b]? = some (.cells cs 98)
  at_ : ∀ q, q < 300 → w.cell? ⟨b, q, none⟩ = some (.bool (F q))
theorem zbool : Tryd.zeroCells98 = Array.replicate 300 (.bool false) := by kernel_rfl
theorem InA.made (w : World) : InA (w.alloc (.cells Tryd.zeroCells98 98)) w.heap.size (fun _ => false) := by
  refine ⟨⟨_, alloc_at rfl _⟩, fun q hq => ?_⟩
  rw [World.cell?_alloc_mark, zbool, Array.getElem?_replicate, if_pos hq]
theorem InA.lt {w : World} {b : Nat} {F : Nat → Bool} (h : InA w b F) : b < w.heap.size := let ⟨_, e⟩ := h.blk; (Array.getElem?_eq_some_iff.1 e).1
theorem InA.frozen {w : World} {b : Nat} {F : Nat → Bool} (h : InA w b F) (q : Nat) : w.frozen? ⟨b, q, none⟩ = false := by
  obtain ⟨cs, h1⟩ := h.blk
  simp [World.frozen?, h1]
theorem InA.keep {w w' : World} {b : Nat} {F : Nat → Bool} (h : InA w b F) (e : w'.heap[b]? = w.heap[b]?) : InA w' b F :=
  ⟨by rw [e]; exact h.blk, fun q hq => by rw [World.cell?_of_block (w := w) e]; exact h.at_ q hq⟩
theorem InA.below {w w' : World} {b : Nat} {F : Nat → Bool} (h : InA w b F) (hb : Below w.heap.size w w') : InA w' b F := h.keep (hb.block b h.lt)
theorem InA.turn {S : List Nat} {w w' : World} {b : Nat} {F : Nat → Bool} (h : InA w b F) (t : Turn S w w') (hb : b ∉ S) : InA w' b F := h.keep (t.block b h.lt hb)
theorem InA.set {w : World} {b : Nat} {F : Nat → Bool} (h : InA w b F) (p : Nat) (hp : p < 300) (v : Bool) : InA (w.setCell ⟨b, p, none⟩ (.bool v)) b (fun q => if q = p then v else F q) := by
  obtain ⟨cs, h1⟩ := h.blk
  refine ⟨⟨_, heap_setCell_same w b p cs _ _ h1⟩, fun q hq => ?_⟩
  by_cases e : q = p
  · subst e
    rw [if_pos rfl]
    exact World.cell?_setCell_same w _ _ (h.at_ q hq)
  · rw [if_neg e, World.cell?_setCell_other w (a := ⟨b, p, none⟩) (b := ⟨b, q, none⟩) (v := _) (fun h => e (congrArg Addr.off h).symm)]
    exact h.at_ q hq
end Go.Proofs.YtagbnacffiagcaaDoor.BlobW
