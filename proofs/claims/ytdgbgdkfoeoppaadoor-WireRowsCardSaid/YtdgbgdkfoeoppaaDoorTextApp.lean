/- A text appended to bytes of one's own; small rows. -/
import Derived.Test.YtdgbgdkfoeoppaaDoorRefWalk
import Derived.Test.YtdgbgdkfoeoppaaDoorText
namespace Go.Proofs.YtdgbgdkfoeoppaaDoor.Text
open Go Go.RowKit Go.Proofs.YtdgbgdkfoeoppaaDoor.Mem Go.Proofs.YtdgbgdkfoeoppaaDoor.RefW
set_option linter.unusedVariables false
set_option maxRecDepth 100000

theorem own1 (w : World) (x : Nat) : (w.alloc (.cells #[.int .u8 (x : Int)] 5)).ownsRow w.heap.size 5 1 (.slice (some ⟨w.heap.size, 0, none⟩) 1 1) 1 (nums .u8 [x]) :=
  ⟨rfl, .inr ⟨w.heap.size, 1, #[.int .u8 (x : Int)], rfl, Nat.le_refl _, heap_alloc_new w _, by decide, by decide, rfl, rfl⟩⟩
theorem own4 (w : World) (x y z u : Nat) : (w.alloc (.cells #[.int .u8 (x : Int), .int .u8 (y : Int), .int .u8 (z : Int), .int .u8 (u : Int)] 5)).ownsRow w.heap.size 5 1 (.slice (some ⟨w.heap.size, 0, none⟩) 4 4) 4 (nums .u8 [x, y, z, u]) :=
  ⟨rfl, .inr ⟨w.heap.size, 4, #[.int .u8 (x : Int), .int .u8 (y : Int), .int .u8 (z : Int), .int .u8 (u : Int)], rfl, Nat.le_refl _, heap_alloc_new w _, by decide, by decide, rfl, rfl⟩⟩
theorem new4 (w : World) (x y z u : Value) (t : TypeId) : (w.alloc (.cells #[x, y, z, u] t)).cell? ⟨w.heap.size, 0, none⟩ = some x ∧ (w.alloc (.cells #[x, y, z, u] t)).cell? ⟨w.heap.size, 1, none⟩ = some y ∧ (w.alloc (.cells #[x, y, z, u] t)).cell? ⟨w.heap.size, 2, none⟩ = some z ∧ (w.alloc (.cells #[x, y, z, u] t)).cell? ⟨w.heap.size, 3, none⟩ = some u := by
  refine ⟨?_, ?_, ?_, ?_⟩ <;> simp

/-- append of a text to bytes of one's own -/
theorem wpList_text {w : World} {ops : Array Oper} {rest : List Oper} {o : Oper} {a : Act} {Q : Exit → Act → World → Prop}
    (hg : o.guard = none) (s x : Operand) (hop : o.op = .call { callee := .builtin .append, args := #[s, x], argTypes := #[44, 9] })
    (base : Nat) (v : Value) (n : Nat) (l : List Nat) (hs : a.eval s = v) (hown : w.ownsRow base 5 1 v n (nums .u8 l)) (t : ByteArray) (hx : a.eval x = .string t)
    (hb : n + t.size ≤ 140737488355328) (hbase : base ≤ w.heap.size)
    (h : ∀ v' w', w'.ownsRow base 5 1 v' (n + t.size) (nums .u8 (l ++ txt t)) → Below base w w' → wpList Tryd.prog ops Q rest (a.put o.dst v') w') : wpList Tryd.prog ops Q (o :: rest) a w := by
  obtain ⟨i, hi, hz0, hz1, hz2⟩ := info_parts elU8.hi
  refine Lib.wpList_append_own_string w hg s x _ _ hop base _ i Tryd.underlying44 Tryd.underlying9 hi hz0 hz1 hz2 v n _ hs hown t hx (by unfold maxLen; omega) hb hbase ?_
  intro v' w' h1 h2 h3
  refine h v' w' ?_ ((Below.refl _ _).grown h2 hbase fun b hb => (hown.lt b hb).1)
  rw [Text.cells] at h1
  unfold nums at h1 ⊢
  rw [List.map_append]
  exact h1
end Go.Proofs.YtdgbgdkfoeoppaaDoor.Text
