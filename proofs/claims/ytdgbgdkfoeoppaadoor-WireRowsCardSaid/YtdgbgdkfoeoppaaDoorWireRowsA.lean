/- Forms that are cut off; a text that ends too early. -/
import Derived.Test.YtdgbgdkfoeoppaaDoorWireTwo
import Derived.Test.YtdgbgdkfoeoppaaDoorWireText
namespace Go.Proofs.YtdgbgdkfoeoppaaDoor.Wire
open Go Go.RowKit Go.Proofs.YtdgbgdkfoeoppaaDoor.Mem Go.Proofs.YtdgbgdkfoeoppaaDoor.RefW Go.Proofs.YtdgbgdkfoeoppaaDoor.Text
set_option linter.unusedVariables false
set_option maxRecDepth 100000

/-- a form that is cut off ends -/
theorem dec_cut (z : Nat) : ∀ (i acc m : Nat), m < (enc z).length → z < 2 * 128 ^ (9 - i) → i ≤ 9 → dec i acc ((enc z).take m) = .ends := by
  induction z using Nat.strongRecOn with
  | ind z ih =>
    intro i acc m hm hz hi
    by_cases h : z < 128
    · rw [enc_lt h] at hm ⊢
      simp at hm
      subst hm
      rfl
    · rw [enc_ge h] at hm ⊢
      cases m with
      | zero => rfl
      | succ m =>
        rw [List.length_cons] at hm
        rw [List.take_succ_cons]
        have hi8 : i ≤ 8 := by
          rcases Nat.lt_or_ge i 9 with h9 | h9
          · omega
          · have : i = 9 := by omega
            subst this; simp at hz; omega
        have hpw : 128 ^ (9 - i) = 128 * 128 ^ (9 - (i + 1)) := by
          rw [show 9 - i = (9 - (i + 1)) + 1 by omega, Nat.pow_succ, Nat.mul_comm]
        rw [dec, if_neg (by omega), if_pos (by omega)]
        exact ih (z / 128) (by omega) (i + 1) _ m (by omega) (by omega) (by omega)

set_option maxHeartbeats 1600000 in
/-- a text whose length is none -/
theorem text_ends (g : Nat) (a : Option Addr) (n cap : Nat) (l : List Nat) (p : Nat) (most : Int) (E0 E1 E2 : Addr) (w : World) (hR : Rd w g a n cap l p .nilIface) (h0 : Err.At w 2 E0) (h1 : Err.At w 3 E1) (h2 : Err.At w 0 E2)
    (hd : dec 0 0 (l.drop p) = .ends) (hm : -9223372036854775808 ≤ most ∧ most ≤ 9223372036854775807) :
    Calls Tryd.prog 49 #[.pointer (some ⟨g, 0, none⟩), .int .i64 most] w fun e w' => (∃ h, w.heap.size ≤ h ∧ e = .returned (.string ⟨#[]⟩) ∧ Failed w' g a n cap l p E0 h) ∧ w.grownBy w' (some g) := by
  obtain ⟨c0, c1, c2, f1, f2⟩ := hR.cells
  go_enter Tryd.func49, Tryd.ntmps49
  go_wp2_with fail
  refine (num_bad g a n cap l p 0 most E0 E1 E2 E0 _ hR h0 h1 h2 (.inl ⟨hd, rfl⟩)).mono ?_
  rintro e w1 ⟨⟨h, hh, rfl, hF⟩, hG⟩
  obtain ⟨c0, c1, c2', f1, f2⟩ := hF.1.cells
  unfold atv at c2'
  clear hd c2
  go_wp2_with fail
  go_ret
  exact ⟨⟨h, hh, rfl, hF⟩, hG⟩

set_option maxHeartbeats 1600000 in
/-- a text that ends too early -/
theorem text_short (g : Nat) (a : Option Addr) (n cap : Nat) (l : List Nat) (p z k m : Nat) (most : Int) (E0 E1 : Addr) (w : World) (hR : Rd w g a n cap l p .nilIface) (h0 : Err.At w 2 E0) (h1 : Err.At w 3 E1)
    (hg : (2 : Nat) ≠ g)
    (hd : dec 0 0 (l.drop p) = .num z k) (hz : zag z = (m : Int)) (hm : (m : Int) ≤ most) (hmost : most ≤ 9223372036854775807) (hfit : n < p + k + m) :
    Calls Tryd.prog 49 #[.pointer (some ⟨g, 0, none⟩), .int .i64 most] w fun e w' => (∃ h, w.heap.size ≤ h ∧ e = .returned (.string ⟨#[]⟩) ∧ Failed w' g a n cap l p E0 h) ∧ w.grownBy w' (some g) := by
  have hsm := hR.small
  have hkn : p + k ≤ n := by
    have hk := dec_le _ _ _ _ _ hd
    rw [List.length_drop, hR.row.len] at hk
    have := hR.le
    omega
  obtain ⟨c0, c1, c2, f1, f2⟩ := hR.cells
  have cn := num_ok g a n cap l p z k 0 most E0 E1 w hR h0 h1 hd (by omega) (by omega)
  rw [hz] at cn
  clear hd hz h1
  obtain ⟨u, hu⟩ : ∃ u, u = p + k := ⟨_, rfl⟩
  rw [← hu] at cn
  have hnu : n - u < m := by omega
  have hle := hR.le
  clear hfit
  have HU := hid hu
  clear hu hkn
  go_enter Tryd.func49, Tryd.ntmps49
  go_wp2_with fail
  refine cn.mono ?_
  rintro e w1 ⟨rfl, R1, hG1⟩
  clear c0 c1 c2 f1 f2 cn hR
  have e0 : w1.cell? ⟨2, 0, none⟩ = some (SeeW.ev E0) := World.grownBy.cell hG1 h0.1 (fun e => hg (Option.some.inj e))
  obtain ⟨c0, c1, c2, f1, f2⟩ := R1.cells
  have d1 : decide (((n - u : Nat) : Int) < (m : Int)) = true := by rw [decide_eq_true_eq]; omega
  go_wp2_with fail
  refine (left_w g a n cap l u _ _ R1).mono ?_
  rintro e w2 ⟨rfl, hb2⟩
  have R2 := R1.below hb2
  have hG2 := on_trans hG1 (below_on hb2 g)
  replace e0 := kept hb2 e0
  clear c0 c1 c2 f1 f2 R1 hG1 hb2
  obtain ⟨c0, c1, c2, f1, f2⟩ := R2.cells
  have R3 : Rd (w2.setCell ⟨g, 1, none⟩ (.int .i64 (p : Int))) g a n cap l p .nilIface :=
    ⟨heap_setCell_same w2 g 1 _ _ _ R2.blk, Row.keep R2.row fun b o he hl => heap_setCell_other w2 ⟨g, 1, none⟩ b _ (R2.apart b o he), R2.byte, hle, hsm, R2.apart⟩
  have hG3 := on_trans hG2 (on_set w2 g 1 (.int .i64 (p : Int)))
  replace e0 := World.grownBy.cell (on_set w2 g 1 (.int .i64 (p : Int))) e0 (fun e => hg (Option.some.inj e))
  go_wp2_with fail
  refine (fail_w g a n cap l p .nilIface E0 _ R3).mono ?_
  rintro e w4 ⟨h, rfl, hh, hR4, hB4, hG4⟩
  go_wp2_with fail
  go_ret
  exact ⟨⟨h, Nat.le_trans hG3.size hh, rfl, hR4, hB4⟩, on_trans hG3 hG4⟩
end Go.Proofs.YtdgbgdkfoeoppaaDoor.Wire
