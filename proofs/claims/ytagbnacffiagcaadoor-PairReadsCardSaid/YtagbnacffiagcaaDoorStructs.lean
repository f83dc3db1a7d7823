/- A slice of structs whose fields are one cell each, opened at every index and field. -/
import Derived.Test.YtagbnacffiagcaaDoorMem
import Derived.Deep.Slices
import Derived.ChangeSame
namespace Go.Proofs.YtagbnacffiagcaaDoor.Mem
open Go Go.RowKit Go.ChangeShapes Go.WideShapes Go.Deep
set_option linter.unusedVariables false

section
variable {H : Type} {enc : TypeId × Value → H} {P : Program} {w : World} {base : Nat} {spare : Nat → Bool} {held : Bool}
/-- v is a slice of len structs of the fields fs: each field's cell reads by the field's type -/
def Structs (enc : TypeId × Value → H) (P : Program) (w : World) (base : Nat) (spare : Nat → Bool) (held : Bool) (fs : Array Field) (o : Option Addr) (len cap : Nat) : Prop :=
  (o = none ∧ len = 0 ∧ cap = 0) ∨ ∃ a : Addr, o = some a ∧ base ≤ a.block ∧ len ≤ cap ∧ cap ≤ maxLen ∧
    ∀ i, i < len → ∀ (j : Nat) (f : Field), fs[j]? = some f → ∃ (x : Value) (n : Nat) (y : DataW H × List MemPlace), w.cell? (a.add (i * fs.size + j)) = some x ∧ DataW.trod enc P w base spare held n f.type [x] = some y
theorem open_structs {t e : TypeId} {fs : Array Field} {fuel : Nat} {cs : List Value} {x : DataW H × List MemPlace} (ht : P.underlying t = some (.slice e)) (he : P.underlying e = some (.struct fs))
    (ce : P.cellsOf e = fs.size) (hoff : ∀ (j : Nat) (f : Field), fs[j]? = some f → f.offset = j ∧ P.cellsOf f.type = 1) (h : DataW.trod enc P w base spare held fuel t cs = some x) :
    ∃ (o : Option Addr) (len cap : Nat), cs = [.slice o len cap] ∧ Structs enc P w base spare held fs o len cap := by
  rcases open_slice ht h with ⟨rfl, rfl⟩ | ⟨a, len, cap, m, n, D, Pl, rfl, hb, hl, hm, hmm, rfl, hx⟩
  · exact ⟨none, 0, 0, rfl, .inl ⟨rfl, rfl, rfl⟩⟩
  · refine ⟨some a, len, cap, rfl, .inr ⟨a, rfl, hb, hl, hm, fun i hi j f hf => ?_⟩⟩
    have hlm : len ≤ m := by rw [hmm]; split <;> omega
    obtain ⟨cs', h1, h2⟩ := hx i (by omega)
    rw [ce] at h1
    obtain ⟨_, hlen, hcell⟩ := World.cells?_some h1
    obtain ⟨xs, k, hk, hxy, _, hxl, hfld⟩ := DataW.trod_struct he h2
    have hjs : j < fs.size := (Array.getElem?_eq_some_iff.1 hf).1
    obtain ⟨o0, c0⟩ := hoff j f hf
    have e0 := hcell j (by omega)
    rw [add_add] at e0
    have g0 := hfld j f hf
    rw [o0, c0] at g0
    have hjl : j < cs'.length := by omega
    rw [List.getElem?_eq_getElem hjl] at e0
    rw [List.drop_eq_getElem_cons hjl, List.take_succ_cons, List.take_zero, List.getElem?_eq_getElem (by omega)] at g0
    exact ⟨_, _, _, e0, g0⟩
end
end Go.Proofs.YtagbnacffiagcaaDoor.Mem
