/- The walks of a reader's numbers that fail; of a reader that has failed. -/
import Derived.Test.YtdgbgdkfoeoppaaDoorWireFail
namespace Go.Proofs.YtdgbgdkfoeoppaaDoor.Wire
open Go Go.RowKit Go.Proofs.YtdgbgdkfoeoppaaDoor.Mem Go.Proofs.YtdgbgdkfoeoppaaDoor.RefW Go.Proofs.YtdgbgdkfoeoppaaDoor.Text
set_option linter.unusedVariables false
set_option maxRecDepth 100000

/-- a reader that has failed: at place p, by the error at A -/
def Failed (w : World) (g : Nat) (a : Option Addr) (n cap : Nat) (l : List Nat) (p : Nat) (A : Addr) (h : Nat) : Prop :=
  Rd w g a n cap l p (atv h) ∧ w.heap[h]? = some (.cells #[.int .i64 (p : Int), SeeW.ev A] 97 (0, 0))
theorem Failed.below {w w' : World} {g : Nat} {a : Option Addr} {n cap : Nat} {l : List Nat} {p : Nat} {A : Addr} {h : Nat} (k : Failed w g a n cap l p A h) (hb : Below w.heap.size w w') : Failed w' g a n cap l p A h := by
  obtain ⟨k1, k2⟩ := k
  refine ⟨k1.below hb, ?_⟩
  have : h < w.heap.size := by
    rcases Nat.lt_or_ge h w.heap.size with h' | h'
    · exact h'
    · rw [Array.getElem?_eq_none h'] at k2; cases k2
  rw [hb.block _ this]; exact k2

set_option maxHeartbeats 3200000 in
/-- no number, or one that is not within -/
theorem num_bad (g : Nat) (a : Option Addr) (n cap : Nat) (l : List Nat) (p : Nat) (lo hi : Int) (E0 E1 E2 A : Addr) (w : World) (hR : Rd w g a n cap l p .nilIface) (h0 : Err.At w 2 E0) (h1 : Err.At w 3 E1) (h2 : Err.At w 0 E2)
    (hd : (dec 0 0 (l.drop p) = .ends ∧ A = E0) ∨ (dec 0 0 (l.drop p) = .shape ∧ A = E1) ∨ (∃ z k, dec 0 0 (l.drop p) = .num z k ∧ (zag z < lo ∨ hi < zag z) ∧ A = E2)) :
    Calls Tryd.prog 40 #[.pointer (some ⟨g, 0, none⟩), .int .i64 lo, .int .i64 hi] w fun e w' => (∃ h, w.heap.size ≤ h ∧ e = .returned (.int .i64 0) ∧ Failed w' g a n cap l p A h) ∧ w.grownBy w' (some g) := by
  obtain ⟨c0, c1, c2, f1, f2⟩ := hR.cells
  have cn := number_w g a n cap l p .nilIface E0 E1 w hR h0 h1
  rcases hd with ⟨hd, rfl⟩ | ⟨hd, rfl⟩ | ⟨z, k, hd, hz, rfl⟩
  · rw [hd] at cn
    clear hd h0 h1 h2
    go_enter Tryd.func40, Tryd.ntmps40
    go_wp2_with fail
    refine cn.mono ?_
    rintro e w1 ⟨rfl, hb1⟩
    have R1 := hR.below hb1
    have hG := below_on hb1 g
    have hs := hb1.size
    clear hb1 cn
    rw [show ans A E1 .ends = .tuple #[.int .i64 0, .int .i64 0, SeeW.ev A] from rfl]
    go_wp2_with fail
    refine (fail_w g a n cap l p .nilIface A w1 R1).mono ?_
    rintro e w2 ⟨h, rfl, hh, hR2, hB2, hG2⟩
    go_wp2_with fail
    go_ret
    exact ⟨⟨h, by omega, rfl, hR2, hB2⟩, on_trans hG hG2⟩
  · rw [hd] at cn
    clear hd h0 h1 h2
    go_enter Tryd.func40, Tryd.ntmps40
    go_wp2_with fail
    refine cn.mono ?_
    rintro e w1 ⟨rfl, hb1⟩
    have R1 := hR.below hb1
    have hG := below_on hb1 g
    have hs := hb1.size
    clear hb1 cn
    rw [show ans E0 A .shape = .tuple #[.int .i64 0, .int .i64 0, SeeW.ev A] from rfl]
    go_wp2_with fail
    refine (fail_w g a n cap l p .nilIface A w1 R1).mono ?_
    rintro e w2 ⟨h, rfl, hh, hR2, hB2, hG2⟩
    go_wp2_with fail
    go_ret
    exact ⟨⟨h, by omega, rfl, hR2, hB2⟩, on_trans hG hG2⟩
  · rw [hd] at cn
    have hz' : decide (zag z < lo) = true ∨ (decide (zag z < lo) = false ∧ decide (hi < zag z) = true) := by
      by_cases e : zag z < lo
      · exact .inl (by rw [decide_eq_true_eq]; exact e)
      · exact .inr ⟨by rw [decide_eq_false_iff_not]; exact e, by rw [decide_eq_true_eq]; omega⟩
    clear hd h0 h1 hz
    rcases hz' with d1 | ⟨d1, d2⟩
    all_goals
      go_enter Tryd.func40, Tryd.ntmps40
      go_wp2_with fail
      refine cn.mono ?_
      rintro e w1 ⟨rfl, hb1⟩
      have R1 := hR.below hb1
      have hG := below_on hb1 g
      have hs := hb1.size
      obtain ⟨e21, e22⟩ := h2.below hb1
      clear hb1 cn h2
      rw [show ans E0 E1 (.num z k) = .tuple #[.int .i64 (zag z), .int .i64 (k : Int), .nilIface] from rfl]
      go_wp2_with fail
      refine (fail_w g a n cap l p .nilIface A w1 R1).mono ?_
      rintro e w2 ⟨h, rfl, hh, hR2, hB2, hG2⟩
      go_wp2_with fail
      go_ret
      exact ⟨⟨h, by omega, rfl, hR2, hB2⟩, on_trans hG hG2⟩
/-- a reader that has failed reads nothing -/
theorem num_err (g : Nat) (a : Option Addr) (n cap : Nat) (l : List Nat) (p : Nat) (lo hi : Int) (A : Addr) (h : Nat) (w : World) (hF : Failed w g a n cap l p A h) :
    Calls Tryd.prog 40 #[.pointer (some ⟨g, 0, none⟩), .int .i64 lo, .int .i64 hi] w fun e w' => e = .returned (.int .i64 0) ∧ Below w.heap.size w w' := by
  obtain ⟨c0, c1, c2, f1, f2⟩ := hF.1.cells
  unfold atv at c2
  go_enter Tryd.func40, Tryd.ntmps40
  go_wp2_with fail
  go_ret
  exact ⟨rfl, Below.refl _ _⟩
end Go.Proofs.YtdgbgdkfoeoppaaDoor.Wire
