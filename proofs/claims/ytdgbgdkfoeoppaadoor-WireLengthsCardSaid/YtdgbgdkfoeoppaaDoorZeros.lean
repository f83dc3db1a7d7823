/- Zeros appended to bytes of one's own (the model's append of a make). -/
import Derived.Test.YtdgbgdkfoeoppaaDoorTextApp
import Derived.Lib.AppendZeros
namespace Go.Proofs.YtdgbgdkfoeoppaaDoor.Text
open Go Go.RowKit Go.Proofs.YtdgbgdkfoeoppaaDoor.Mem Go.Proofs.YtdgbgdkfoeoppaaDoor.RefW
set_option linter.unusedVariables false
set_option maxRecDepth 100000

/-- the text of m zero bytes -/
def zs (m : Nat) : ByteArray := ofTxt (List.replicate m 0)
theorem zs_txt (m : Nat) : txt (zs m) = List.replicate m 0 := txt_of (by intro x hx; rw [List.eq_of_mem_replicate hx]; decide)
theorem zs_size (m : Nat) : (zs m).size = m := by rw [← Text.length, zs_txt, List.length_replicate]
theorem zs_cells (m : Nat) : (Lib.strCells (zs m)).toArray = Builtin.zeroCells (Value.int .u8 0).cells m := by
  rw [Text.cells, zs_txt]
  apply Array.ext'
  have hc : (Value.int IntKind.u8 0).cells = #[.int .u8 0] := rfl
  rw [hc]
  simp only [nums]
  apply List.ext_getElem
  · simp [Builtin.zeroCells]
  · intro j h1 h2
    simp [Builtin.zeroCells, Nat.mod_one]

theorem zeros_as_text (w : World) (ty : TypeId) (a : Option Addr) (n cap m : Nat) (hm : 0 < m) (h1 : n + m ≤ 140737488355328) (hc : n ≤ cap) (i : TypeInfo) (hi : Tryd.prog.info? 5 = some i) (hz : i.zero = some (.int .u8 0)) (h2 : i.size = 1) (h3 : i.bytes = 1) :
    (Builtin.append_ #[44, 3] ty #[.slice a n cap, .int .i64 (m : Int)]).run Tryd.prog w = (Builtin.append_ #[44, 9] ty #[.slice a n cap, .string (zs m)]).run Tryd.prog w := by
  have hw : IntKind.i64.wrap (m : Int) = m := by rw [IntKind.wrap_i64]; omega
  have hm0 : m ≠ 0 := by omega
  have hneg : ¬ ((m : Int) < 0) := by omega
  have h48 : ¬ (281474976710656 < (m : Int)) := by omega
  have h63 : ¬ (9223372036854775807 < ((n : Int) + (m : Int))) := by omega
  have hf := fun w' => Lib.run_firstCells_string (P := Tryd.prog) w' 1 (zs m)
  rw [zs_size] at hf
  simp only [zs_cells] at hf
  by_cases hr : n + m ≤ cap
  · simp [Builtin.append_, run_underlying Tryd.underlying44, run_underlying Tryd.underlying3, run_underlying Tryd.underlying9, sizeOf, typeInfo, zeroValue, hi, hz, h2, h3, asInt, asIntOf, hw, hm0, hneg, h48, Builtin.lenOf, zs_size, hf, hr]
  · have hfit := growslice_fits (need := n + m) (old := cap) (bytes := 1) (by omega) (by omega)
    have hf2 : ¬ (281474976710656 < Builtin.nextslicecap (n + m) cap) := by omega
    simp [Builtin.append_, run_underlying Tryd.underlying44, run_underlying Tryd.underlying3, run_underlying Tryd.underlying9, sizeOf, typeInfo, zeroValue, hi, hz, h2, h3, asInt, asIntOf, hw, hm0, hneg, h48, h63, Builtin.lenOf, zs_size, hf, hr, hf2]

/-- append of m zeros to bytes of one's own -/
theorem wpList_zeros {w : World} {ops : Array Oper} {rest : List Oper} {o : Oper} {a : Act} {Q : Exit → Act → World → Prop}
    (hg : o.guard = none) (s x : Operand) (hop : o.op = .call { callee := .builtin .append, args := #[s, x], argTypes := #[44, 3] })
    (base : Nat) (v : Value) (n : Nat) (l : List Nat) (hs : a.eval s = v) (hown : w.ownsRow base 5 1 v n (nums .u8 l)) (m : Nat) (hm : 0 < m) (hx : a.eval x = .int .i64 (m : Int))
    (hb : n + m ≤ 140737488355328) (hbase : base ≤ w.heap.size)
    (h : ∀ v' w', w'.ownsRow base 5 1 v' (n + m) (nums .u8 (l ++ List.replicate m 0)) → Below base w w' → wpList Tryd.prog ops Q rest (a.put o.dst v') w') : wpList Tryd.prog ops Q (o :: rest) a w := by
  obtain ⟨i, hi, hz0, hz1, hz2⟩ := info_parts elU8.hi
  obtain ⟨ad, cap, rfl, hr⟩ := ownsRow_slice hown
  obtain ⟨v', w', e1, e2, e3, e4⟩ := Lib.run_append_own_string (P := Tryd.prog) w base 44 9 o.type 5 i Tryd.underlying44 Tryd.underlying9 hi hz0 hz1 hz2 _ n _ hown (zs m) (by rw [zs_size]; unfold maxLen; omega) (by rw [zs_size]; omega) hbase
  rw [← zeros_as_text w o.type ad n cap m hm hb hr.2.1 i hi hz0 hz1 hz2] at e1
  refine Lib.wpList_append_run w hg s x _ _ hop _ _ hs hx v' w' e1 (h v' w' ?_ ((Below.refl _ _).grown e3 hbase fun b hb => (hown.lt b hb).1))
  rw [Text.cells, zs_txt, zs_size] at e2
  unfold nums at e2 ⊢
  rw [List.map_append]
  exact e2
end Go.Proofs.YtdgbgdkfoeoppaaDoor.Text
