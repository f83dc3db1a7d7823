/- A row of places beside an area. -/
import Derived.Test.YtagbnacffiagcaaDoorAreaLay
import Derived.Test.YtagbnacffiagcaaDoorRefs
namespace Go.Proofs.YtagbnacffiagcaaDoor.BlobW
open Go Go.RowKit Go.Maps Go.Proofs.YtagbnacffiagcaaDoor.Mem Go.Proofs.YtagbnacffiagcaaDoor.MapsW Go.Proofs.YtagbnacffiagcaaDoor.DevG Go.Proofs.YtagbnacffiagcaaDoor.RefsW
set_option linter.unusedVariables false
set_option maxRecDepth 100000

theorem own_turn {S : List Nat} {w w' : World} {base : Nat} {e : TypeId} {size : Nat} {v : Value} {n : Nat} {xs : List Value} (h : w.ownsRow base e size v n xs) (T : Turn S w w') (hS : ∀ x ∈ S, x < base ∨ w.heap.size ≤ x) : w'.ownsRow base e size v n xs := by
  rcases h with ⟨h1, h2 | ⟨g, c, cur, e1, hb, hg, r⟩⟩
  · exact ⟨h1, .inl h2⟩
  · refine ⟨h1, .inr ⟨g, c, cur, e1, hb, T.cells hg (fun hm => ?_), r⟩⟩
    have hlt := (Array.getElem?_eq_some_iff.1 hg).1
    rcases hS g hm with q | q <;> omega
theorem own_first {w : World} {base : Nat} {v : Value} {n : Nat} {rs : List (Int × Nat)} (h : OwnRefs w base v n rs) (hn : 0 < n) : ∃ g c z, v = .slice (some ⟨g, 0, none⟩) n c ∧ base ≤ g ∧ g < w.heap.size ∧ w.cell? ⟨g, 0, none⟩ = some (.int .i64 z) := by
  obtain ⟨a, c, rfl, hR⟩ := refs_of h
  obtain ⟨g, rfl⟩ := own_some h hn
  have hl := hR.len
  obtain ⟨b, o, e, h1, _⟩ := hR.at (j := 0) (by omega)
  cases e
  obtain ⟨q1, q2⟩ := h.lt g rfl
  exact ⟨g, c, _, rfl, q1, q2, by simpa using h1⟩
/-- an append to the row leaves the area -/
theorem AAt.grown {w w' : World} {lo d n : Nat} {m : Mp} {D : Dv} {a u k : Nat} {A : Ar} (h : AAt w lo d n m D a u k A) {base : Nat} {v : Value} {r : Nat} {rs : List (Int × Nat)} (own : OwnRefs w base v r rs) (hg : w.grownBy w' v.ownBlock) (hb : ∀ x ∈ aown d m a u k, x < base) (h0 : r = 0 → v = .slice none 0 0) : AAt w' lo d n m D a u k A := by
  rcases Nat.eq_zero_or_pos r with hr | hr
  · rw [h0 hr] at hg
    exact h.away (S := []) (Turn.of_none hg) (by simp) (by simp)
  · obtain ⟨g, c, z, rfl, q1, q2, q3⟩ := own_first own hr
    refine h.away (S := [g]) (Turn.of_grown hg (by simp)) (fun x hx e => ?_) (fun x hx => ?_)
    · have := hb x e
      rw [List.mem_singleton.1 hx] at this
      omega
    · rw [List.mem_singleton.1 hx]
      exact .inr ⟨_, q3, fun y e => by cases e⟩
/-- the row reads on where its block is as it was -/
theorem refs_block {w w' : World} {g n cap : Nat} {rs : List (Int × Nat)} (h : Refs w (some ⟨g, 0, none⟩) n cap rs) (e : w'.heap[g]? = w.heap[g]?) : Refs w' (some ⟨g, 0, none⟩) n cap rs := by
  obtain ⟨h1, h2, h3, h4, h5⟩ := h
  refine ⟨h1, h2, h3, h4, fun j u hj => ?_⟩
  obtain ⟨b, o, he, hc⟩ := h5 j u hj
  refine ⟨b, o, he, ?_⟩
  cases he
  rw [World.cell?_of_block (w := w) e]
  exact hc
end Go.Proofs.YtagbnacffiagcaaDoor.BlobW
