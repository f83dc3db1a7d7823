/- The walks of a reader: made, read, failed, asked. -/
import Derived.Test.YtdgbgdkfoeoppaaDoorWireNum
namespace Go.Proofs.YtdgbgdkfoeoppaaDoor.Wire
open Go Go.RowKit Go.Proofs.YtdgbgdkfoeoppaaDoor.Mem Go.Proofs.YtdgbgdkfoeoppaaDoor.RefW Go.Proofs.YtdgbgdkfoeoppaaDoor.Text
set_option linter.unusedVariables false
set_option maxRecDepth 100000

/-- a new reader -/
theorem new_w (a : Option Addr) (n cap : Nat) (l : List Nat) (w : World) (hr : Nums .u8 w a n cap l) (hl : ∀ x ∈ l, x < 256) (hn : n ≤ 100000) :
    Calls Tryd.prog 39 #[.slice a n cap] w fun e w' => (∃ g b c, e = .returned (.pointer (some ⟨g, 0, none⟩)) ∧ w.heap.size ≤ g ∧ Rd w' g b n c l 0 .nilIface) ∧ Below w.heap.size w w' := by
  go_enter Tryd.func39, Tryd.ntmps39
  go_wp2_with fail
  refine (clone_w a n cap l _ hr (by omega)).mono ?_
  rintro e w1 ⟨v, rfl, hv, hb1⟩
  obtain ⟨b, c, rfl, hx⟩ := ownsRow_slice hv
  have hap : ∀ b' o, b = some ⟨b', o, none⟩ → b' ≠ w1.heap.size := fun b' o e => by
    subst e
    have := (hv.lt b' (by rcases hv.2 with ⟨h, _⟩ | ⟨g, c', cur, h, _⟩ <;> cases h <;> rfl)).2
    omega
  go_wp2_with fail
  go_ret
  refine ⟨⟨w1.heap.size, b, c, rfl, hb1.size, ⟨heap_alloc_new _ _, Nums.below (k := .u8) hx ((Below.refl _ _).alloc (Nat.le_refl _) _), hl, Nat.zero_le _, hn, hap⟩⟩, hb1.alloc hb1.size _⟩

theorem at_w (g : Nat) (a : Option Addr) (n cap : Nat) (l : List Nat) (p : Nat) (E : Value) (w : World) (hR : Rd w g a n cap l p E) :
    Calls Tryd.prog 44 #[.pointer (some ⟨g, 0, none⟩)] w fun e w' => e = .returned (.int .i64 (p : Int)) ∧ Below w.heap.size w w' := by
  obtain ⟨c0, c1, c2, _, _⟩ := hR.cells
  go_enter Tryd.func44, Tryd.ntmps44
  go_wp2
  go_ret
  exact ⟨rfl, Below.refl _ _⟩
theorem err_w (g : Nat) (a : Option Addr) (n cap : Nat) (l : List Nat) (p : Nat) (E : Value) (w : World) (hR : Rd w g a n cap l p E) :
    Calls Tryd.prog 42 #[.pointer (some ⟨g, 0, none⟩)] w fun e w' => e = .returned E ∧ Below w.heap.size w w' := by
  obtain ⟨c0, c1, c2, _, _⟩ := hR.cells
  go_enter Tryd.func42, Tryd.ntmps42
  go_wp2
  go_ret
  exact ⟨rfl, Below.refl _ _⟩
theorem left_w (g : Nat) (a : Option Addr) (n cap : Nat) (l : List Nat) (p : Nat) (E : Value) (w : World) (hR : Rd w g a n cap l p E) :
    Calls Tryd.prog 45 #[.pointer (some ⟨g, 0, none⟩)] w fun e w' => e = .returned (.int .i64 ((n - p : Nat) : Int)) ∧ Below w.heap.size w w' := by
  obtain ⟨c0, c1, c2, _, _⟩ := hR.cells
  have hle := hR.le
  have hsm := hR.small
  go_enter Tryd.func45, Tryd.ntmps45
  go_wp2
  go_quiet (fail)
  go_wp2
  go_ret
  exact ⟨ret_int (by omega), below_drewN (Below.refl _ _) _⟩
end Go.Proofs.YtdgbgdkfoeoppaaDoor.Wire
