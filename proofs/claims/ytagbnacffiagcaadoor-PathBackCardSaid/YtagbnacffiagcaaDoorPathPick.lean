/- A path of picked parts, as PathSplits makes it. -/
import Derived.Test.YtagbnacffiagcaaDoorPathSplit
import Derived.Test.YtagbnacffiagcaaDoorPathJoin
import Derived.Test.YtagbnacffiagcaaDoorNumWalk
import Derived.Test.YtagbnacffiagcaaDoorIntsRow
import Derived.Deep.RegionHeldLaw
import Derived.Deep.AppendLies
namespace Go.Proofs.YtagbnacffiagcaaDoor.PathW
open Go Go.RowKit Go.Proofs.YtagbnacffiagcaaDoor.Mem Go.Proofs.YtagbnacffiagcaaDoor.SeeW
set_option linter.unusedVariables false
set_option maxRecDepth 100000

/-- the parts that are picked from -/
def choice : List ByteArray := [⟨#[97]⟩, ⟨#[98, 98]⟩, ⟨#[46, 46]⟩, ⟨#[99, 46, 100]⟩]
def pick (z : Int) : ByteArray := choice.getD (z % 4).toNat ⟨#[]⟩
theorem pick_at (z : Int) : choice[(z % 4).toNat]? = some (pick z) := by
  have h1 := Int.emod_nonneg z (b := 4) (by omega)
  have h2 := Int.emod_lt_of_pos z (b := 4) (by omega)
  unfold pick
  rw [List.getD_eq_getElem?_getD]
  have : (z % 4).toNat < choice.length := by show _ < 4; omega
  rw [List.getElem?_eq_getElem this]
  rfl
theorem pick_nice (z : Int) : Path.Nice (pick z).data.toList := by
  have h := List.mem_of_getElem? (pick_at z)
  simp only [choice, List.mem_cons, List.not_mem_nil, or_false] at h
  unfold Path.Nice
  rcases h with h | h | h | h <;> rw [h] <;> decide

/-- what is joined again is the path -/
theorem rejoin {ys : List ByteArray} {x t : ByteArray} (hn : ∀ z ∈ ys ++ [x], Path.Nice z.data.toList) (hl : ys.length ≤ 7) (ht : t.data.toList = joined (text ys false) [x]) :
    bad t = 0 ∧ out t = ys ++ [x] ∧ t.size ≤ 256 := by
  have hx := hn x (by simp)
  have hys : ∀ z ∈ ls ys, Path.Nice z := by
    intro z hz
    obtain ⟨y, hy, rfl⟩ := List.mem_map.1 hz
    exact hn y (by simp [hy])
  have e1 : t.data.toList = 47 :: (Lib.join (ls ys) [47] ++ 47 :: x.data.toList) := by
    rw [ht]; simp [joined, text]
  have e2 : Path.parts t.data.toList = ls ys ++ [x.data.toList] := by
    rw [e1, Path.parts_slash, Path.parts_mid, Path.parts_join _ hys, Path.parts_one hx]
  have e3 := Path.join_length_le 24 (ls ys) fun z hz => (hys z hz).2.2.2
  have e4 : t.data.toList.length ≤ 256 := by
    have h5 := hx.2.2.2
    have h6 : (ls ys).length = ys.length := by simp
    rw [h6] at e3
    rw [e1, List.length_cons, List.length_append, List.length_cons]
    have : ys.length * (24 + 1) ≤ 7 * 25 := Nat.mul_le_mul hl (Nat.le_refl _)
    omega
  have e5 : bad t = 0 := by
    refine Path.bad_zero (by rw [e1]; rfl) e4 ?_ ?_
    · rw [e1]
      intro h
      rw [List.mem_cons, List.mem_append, List.mem_cons] at h
      rcases h with h | h | h | h
      · revert h; decide
      · rcases Path.mem_join _ _ h with h | ⟨z, hz, h⟩
        · revert h; decide
        · exact (hys z hz).2.2.1 h
      · revert h; decide
      · exact hx.2.2.1 h
    · rw [e2]
      intro z hz
      rcases List.mem_append.1 hz with hz | hz
      · exact (hys z hz).2.2.2
      · rw [List.mem_singleton.1 hz]; exact hx.2.2.2
  refine ⟨e5, ?_, ?_⟩
  · rw [out_eq e5 e2, List.map_append, List.map_map]
    have : ((fun l : List UInt8 => (⟨l.toArray⟩ : ByteArray)) ∘ fun x : ByteArray => x.data.toList) = id := by funext x; rfl
    rw [this, List.map_id]
    rfl
  · have : t.data.toList.length = t.size := by rw [Array.length_toList]; rfl
    omega
end Go.Proofs.YtagbnacffiagcaaDoor.PathW
