/- The walks of a failed reader's Text and Bool. -/
import Derived.Test.YtdgbgdkfoeoppaaDoorWireBad
namespace Go.Proofs.YtdgbgdkfoeoppaaDoor.Wire
open Go Go.RowKit Go.Proofs.YtdgbgdkfoeoppaaDoor.Mem Go.Proofs.YtdgbgdkfoeoppaaDoor.RefW Go.Proofs.YtdgbgdkfoeoppaaDoor.Text
set_option linter.unusedVariables false
set_option maxRecDepth 100000

theorem bool_err (g : Nat) (a : Option Addr) (n cap : Nat) (l : List Nat) (p : Nat) (A : Addr) (h : Nat) (w : World) (hF : Failed w g a n cap l p A h) :
    Calls Tryd.prog 50 #[.pointer (some ⟨g, 0, none⟩)] w fun e w' => e = .returned (.bool false) ∧ Below w.heap.size w w' := by
  go_enter Tryd.func50, Tryd.ntmps50
  go_wp2_with fail
  refine (num_err g a n cap l p _ _ A h _ hF).mono ?_
  rintro e w1 ⟨rfl, hb⟩
  go_wp2_with fail
  go_ret
  exact ⟨rfl, hb⟩
theorem text_err (g : Nat) (a : Option Addr) (n cap : Nat) (l : List Nat) (p : Nat) (A : Addr) (h : Nat) (m : Int) (w : World) (hF : Failed w g a n cap l p A h) (hm : -9223372036854775808 ≤ m ∧ m ≤ 9223372036854775807) :
    Calls Tryd.prog 49 #[.pointer (some ⟨g, 0, none⟩), .int .i64 m] w fun e w' => e = .returned (.string ⟨#[]⟩) ∧ Below w.heap.size w w' := by
  obtain ⟨c0, c1, c2, f1, f2⟩ := hF.1.cells
  go_enter Tryd.func49, Tryd.ntmps49
  go_wp2_with fail
  refine (num_err g a n cap l p _ _ A h _ hF).mono ?_
  rintro e w1 ⟨rfl, hb⟩
  replace c2 := kept hb c2
  unfold atv at c2
  go_wp2_with fail
  go_ret
  exact ⟨rfl, hb⟩
end Go.Proofs.YtdgbgdkfoeoppaaDoor.Wire
