/- A slice of texts, as a row's datum gives it. -/
import Derived.Test.YtagbnacffiagcaaDoorPathLib
import Derived.Deep.Slices
import Derived.ChangeSame
namespace Go.Proofs.YtagbnacffiagcaaDoor.Mem
open Go Go.RowKit Go.ChangeShapes Go.WideShapes Go.Deep
set_option linter.unusedVariables false
section
variable {H : Type} {enc : TypeId × Value → H} {P : Program} {w : World} {base : Nat} {spare : Nat → Bool} {held : Bool}
theorem open_texts {t e : TypeId} {fuel : Nat} {cs : List Value} {x : DataW H × List MemPlace} (ht : P.underlying t = some (.slice e)) (he : P.underlying e = some .string) (ce : P.cellsOf e = 1)
    (h : DataW.trod enc P w base spare held fuel t cs = some x) : ∃ (o : Option Addr) (len cap : Nat) (xs : List ByteArray), cs = [.slice o len cap] ∧ PathW.Texts w o len cap xs := by
  rcases open_slice ht h with ⟨rfl, rfl⟩ | ⟨a, len, cap, m, n, D, Pl, rfl, hb, hl, hm, hmm, rfl, hx⟩
  · exact ⟨none, 0, 0, [], rfl, ⟨rfl, Nat.le_refl _, Nat.zero_le _, fun _ => rfl, fun j u h => by simp at h⟩⟩
  · have hlm : len ≤ m := by rw [hmm]; split <;> omega
    have hs : ∀ i, i < len → ∃ s : ByteArray, w.cell? (a.add i) = some (.string s) := fun i hi => by
      obtain ⟨cs', h1, h2⟩ := hx i (by omega)
      rw [ce] at h1
      obtain ⟨_, hlen, hcell⟩ := World.cells?_some h1
      obtain ⟨s, rfl, _⟩ := DataW.trod_string he h2
      have := hcell 0 (by omega)
      rw [add_add, Nat.mul_one, Nat.add_zero] at this
      exact ⟨s, by rw [this]; rfl⟩
    have hl2 : ∀ k, k ≤ len → ∃ xs : List ByteArray, xs.length = k ∧ ∀ i (hi : i < xs.length), w.cell? (a.add i) = some (.string xs[i]) := by
      intro k
      induction k with
      | zero => intro _; exact ⟨[], rfl, fun i hi => absurd hi (Nat.not_lt_zero _)⟩
      | succ k ih =>
        intro hk
        obtain ⟨xs, h1, h2⟩ := ih (by omega)
        obtain ⟨s, h3⟩ := hs k (by omega)
        refine ⟨xs ++ [s], by simp [h1], fun i hi => ?_⟩
        rw [List.getElem_append]
        split
        · exact h2 i _
        · have : i = k := by simp at hi; omega
          subst this
          simp [h3]
    obtain ⟨xs, h1, h2⟩ := hl2 len (Nat.le_refl _)
    refine ⟨some a, len, cap, xs, rfl, ⟨by simp [h1], hl, hm, fun h => by simp at h, fun j u hj => ?_⟩⟩
    rw [List.getElem?_map] at hj
    obtain ⟨s, hs1, rfl⟩ := Option.map_eq_some_iff.1 hj
    obtain ⟨hj2, rfl⟩ := List.getElem?_eq_some_iff.1 hs1
    have hc := h2 j hj2
    obtain ⟨b, off, spot⟩ := a
    have hsp : spot = none := by
      have h0 := h2 0 (by omega)
      simpa [Addr.add] using World.cell?_spot h0
    subst hsp
    rw [Addr.add_lit] at hc
    exact ⟨b, off, rfl, hc⟩
end
end Go.Proofs.YtagbnacffiagcaaDoor.Mem
