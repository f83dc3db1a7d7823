/- Slices of places and their sums ([]api.Ref). -/
import Derived.Test.YtagbnacffiagcaaDoorRefWalk
import Derived.BigQuiet
namespace Go.Proofs.YtagbnacffiagcaaDoor.RefsW
open Go Go.RowKit Go.Proofs.YtagbnacffiagcaaDoor.Mem
set_option linter.unusedVariables false
set_option maxRecDepth 100000

def refCells : List (Int × Nat) → List Value
  | [] => []
  | r :: rs => .int .i64 r.1 :: .int .u32 (r.2 : Int) :: refCells rs
theorem refCells_length (rs : List (Int × Nat)) : (refCells rs).length = rs.length * 2 := by
  induction rs with
  | nil => rfl
  | cons r rs ih => simp only [refCells, List.length_cons, ih]; omega
theorem refCells_append (rs qs : List (Int × Nat)) : refCells (rs ++ qs) = refCells rs ++ refCells qs := by
  induction rs with
  | nil => rfl
  | cons r rs ih => simp only [List.cons_append, refCells, ih]
theorem refCells_get (rs : List (Int × Nat)) (j : Nat) (h : j < rs.length) : (refCells rs)[j * 2]? = some (.int .i64 rs[j].1) ∧ (refCells rs)[j * 2 + 1]? = some (.int .u32 (rs[j].2 : Int)) := by
  induction rs generalizing j with
  | nil => simp at h
  | cons r rs ih =>
    cases j with
    | zero => exact ⟨rfl, rfl⟩
    | succ j =>
      have := ih j (by simpa using h)
      rw [Nat.succ_mul]
      exact this
theorem refCells_one (rs : List (Int × Nat)) : ∀ u ∈ refCells rs, u.oneCell' = true := by
  induction rs with
  | nil => simp [refCells]
  | cons r rs ih =>
    intro u hu
    simp only [refCells, List.mem_cons] at hu
    rcases hu with rfl | rfl | hu
    · rfl
    · rfl
    · exact ih u hu
/-- a slice of places -/
def Refs (w : World) (a : Option Addr) (n cap : Nat) (rs : List (Int × Nat)) : Prop := Row w 2 a n cap (refCells rs)
theorem Refs.below {w w' : World} {a : Option Addr} {n cap : Nat} {rs : List (Int × Nat)} (h : Refs w a n cap rs) (hb : Below w.heap.size w w') : Refs w' a n cap rs := Row.below h hb
theorem Refs.len {w : World} {a : Option Addr} {n cap : Nat} {rs : List (Int × Nat)} (h : Refs w a n cap rs) : rs.length = n := by
  have := h.1; rw [refCells_length] at this; omega
theorem Refs.bound {w : World} {a : Option Addr} {n cap : Nat} {rs : List (Int × Nat)} (h : Refs w a n cap rs) : n ≤ cap ∧ cap ≤ 9223372036854775807 := by
  have := h.2.2.1; unfold maxLen at this; exact ⟨h.2.1, by omega⟩
theorem Refs.at {w : World} {a : Option Addr} {n cap : Nat} {rs : List (Int × Nat)} (h : Refs w a n cap rs) {j : Nat} (hj : j < rs.length) :
    ∃ b off, a = some ⟨b, off, none⟩ ∧ w.cell? ⟨b, off + j * 2, none⟩ = some (.int .i64 rs[j].1) ∧ w.cell? ⟨b, off + j * 2 + 1, none⟩ = some (.int .u32 (rs[j].2 : Int)) := by
  obtain ⟨g1, g2⟩ := refCells_get rs j hj
  obtain ⟨b, o, rfl, h1⟩ := h.2.2.2.2 _ _ g1
  obtain ⟨b', o', e, h2⟩ := h.2.2.2.2 _ _ g2
  cases e
  exact ⟨b, o, rfl, h1, h2⟩
theorem Refs.nil (w : World) : Refs w none 0 0 [] := ⟨rfl, Nat.le_refl _, Nat.zero_le _, fun _ => rfl, fun j u h => by simp [refCells] at h⟩
theorem elRef : El Tryd.prog 97 32 (.agg #[.int .i64 0, .int .u32 0]) 2 16 := ⟨Tryd.underlying97, by kernel_rfl, rfl, by decide⟩
abbrev OwnRefs (w : World) (base : Nat) (v : Value) (n : Nat) (rs : List (Int × Nat)) : Prop := w.ownsRow base 32 2 v n (refCells rs)
theorem refs_of {w : World} {base : Nat} {v : Value} {n : Nat} {rs : List (Int × Nat)} (h : OwnRefs w base v n rs) : ∃ a cap, v = .slice a n cap ∧ Refs w a n cap rs := ownsRow_slice h
end Go.Proofs.YtagbnacffiagcaaDoor.RefsW
