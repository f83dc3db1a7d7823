/- Is: an error by its number. -/
import Derived.Test.YtagbnacffiagcaaDoorPathParse
namespace Go.Proofs.YtagbnacffiagcaaDoor.PathW
open Go Go.RowKit Go.Proofs.YtagbnacffiagcaaDoor.Mem Go.Proofs.YtagbnacffiagcaaDoor.SeeW
set_option linter.unusedVariables false
set_option maxRecDepth 100000

theorem is_errv (bs : List Addr) (c : Nat) (w : World) (h : Bs w bs) (hc : c = 0 ∨ 101 ≤ c ∧ c ≤ 124) (want : Int) :
    Calls Tryd.prog 21 #[errv bs c, .int .i64 want] w fun e w' => e = .returned (.bool ((c : Int) == want)) ∧ Below w.heap.size w w' := by
  rcases hc with rfl | ⟨h1, h2⟩
  · exact is_nil w want
  · have hl := h.1
    have hg : bs[c - 101]? = some bs[c - 101] := List.getElem?_eq_getElem (by omega)
    have e : errv bs c = ev bs[c - 101] := by
      unfold errv
      rw [if_neg (by omega), List.getD_eq_getElem?_getD, hg]
      rfl
    rw [e]
    have := is_w bs w h (c - 101) _ hg want
    rw [show (101 : Int) + ((c - 101 : Nat) : Int) = (c : Int) by omega] at this
    exact this
end Go.Proofs.YtagbnacffiagcaaDoor.PathW
