/- A slice of integers. -/
import Derived.Test.YtagbnacffiagcaaDoorProg
import Derived.Test.YtagbnacffiagcaaDoorMem
namespace Go.Proofs.YtagbnacffiagcaaDoor.Ints
open Go Go.RowKit Go.Proofs.YtagbnacffiagcaaDoor.Mem
set_option linter.unusedVariables false
set_option maxRecDepth 100000

def ints (zs : List Int) : List Value := zs.map fun z => .int .i64 z
/-- a slice of integers -/
def Is (w : World) (a : Option Addr) (n cap : Nat) (zs : List Int) : Prop := Row w 1 a n cap (ints zs)
theorem Is.below {w w' : World} {a : Option Addr} {n cap : Nat} {zs : List Int} (h : Is w a n cap zs) (hb : Below w.heap.size w w') : Is w' a n cap zs := Row.below h hb
theorem Is.len {w : World} {a : Option Addr} {n cap : Nat} {zs : List Int} (h : Is w a n cap zs) : zs.length = n := by
  have := h.1; simp [ints] at this; omega
theorem Is.bound {w : World} {a : Option Addr} {n cap : Nat} {zs : List Int} (h : Is w a n cap zs) : n ≤ cap ∧ cap ≤ 9223372036854775807 := by
  have := h.2.2.1; unfold maxLen at this; exact ⟨h.2.1, by omega⟩
theorem Is.at {w : World} {a : Option Addr} {n cap : Nat} {zs : List Int} (h : Is w a n cap zs) {j : Nat} (hj : j < zs.length) :
    ∃ b off, a = some ⟨b, off, none⟩ ∧ w.cell? ⟨b, off + j, none⟩ = some (.int .i64 zs[j]) :=
  h.2.2.2.2 j _ (by simp [ints, hj])
/-- as the row's datum gives them -/
theorem is_of {w : World} {a : Option Addr} {len cap : Nat} {zs : List Int} (h : IsRow .i64 w a len cap zs) :
    ∃ l : List Int, Is w a len cap l ∧ ∀ x ∈ l, (Lit.int .i64 x).wf = true := by
  rcases h with ⟨rfl, rfl, rfl, rfl⟩ | ⟨x, rfl, hl, hm, hz, hc, hw⟩
  · exact ⟨[], ⟨rfl, Nat.le_refl _, Nat.zero_le _, fun _ => rfl, fun j u h => by simp [ints] at h⟩, by simp⟩
  · refine ⟨zs.take len, ⟨?_, hl, hm, fun h => by simp at h, fun j u hj => ?_⟩, ?_⟩
    · simp [ints]; omega
    · have hjl : j < len := by
        have := (List.getElem?_eq_some_iff.1 hj).1
        simp [ints] at this; omega
      have h1 := hc j (by omega)
      obtain ⟨b, off, spot⟩ := x
      have hs : spot = none := by
        have h0 := hc 0 (by omega)
        simpa [Addr.add] using World.cell?_spot h0
      subst hs
      refine ⟨b, off, rfl, ?_⟩
      rw [Addr.add_lit] at h1
      rw [h1]
      have hjz : j < zs.length := by omega
      have hu : u = .int .i64 (zs[j]) := by
        have h2 : (ints (zs.take len))[j]? = some (.int .i64 (zs[j])) := by
          simp [ints, hjl, hjz]
        rw [h2] at hj
        rw [← Option.some.inj hj]
      rw [hu, List.getD_eq_getElem?_getD, List.getElem?_eq_getElem hjz]
      rfl
    · intro y hy
      exact hw y (List.mem_of_mem_take hy)

theorem mem_take_succ {zs : List Int} {k : Nat} (h : k < zs.length) (x : Int) : x ∈ zs.take (k + 1) ↔ x ∈ zs.take k ∨ x = zs[k] := by
  rw [List.take_succ_eq_append_getElem h, List.mem_append, List.mem_singleton]
end Go.Proofs.YtagbnacffiagcaaDoor.Ints
