/- The walk of a reader's Text. -/
import Derived.Test.YtdgbgdkfoeoppaaDoorWireErr
import Derived.Deep.CutRange
namespace Go.Proofs.YtdgbgdkfoeoppaaDoor.Wire
open Go Go.RowKit Go.Proofs.YtdgbgdkfoeoppaaDoor.Mem Go.Proofs.YtdgbgdkfoeoppaaDoor.RefW Go.Proofs.YtdgbgdkfoeoppaaDoor.Text
set_option linter.unusedVariables false
set_option maxRecDepth 100000

theorem dec_pos : ∀ (r : List Nat) (i acc z k : Nat), dec i acc r = .num z k → i < k := by
  intro r
  induction r with
  | nil => intro i acc z k h; simp [dec] at h
  | cons c r ih =>
    intro i acc z k h
    rw [dec] at h
    split at h
    · simp at h
    · split at h
      · have := ih _ _ _ _ h; omega
      · split at h
        · simp at h
        · simp at h; omega
theorem cut {w : World} {k : IntKind} {b o n cap : Nat} {l : List Nat} (h : Nums k w (some ⟨b, o, none⟩) n cap l) (i m : Nat) (hm : i + m ≤ n) : Nums k w (some ⟨b, o + i, none⟩) m (cap - i) ((l.drop i).take m) := by
  have hl := h.len
  obtain ⟨h1, h2, h3, h4, h5⟩ := h
  refine ⟨by rw [nums_length, List.length_take, List.length_drop]; omega, by omega, by omega, fun h => by simp at h, fun j u hj => ⟨b, o + i, rfl, ?_⟩⟩
  have e : nums k ((l.drop i).take m) = ((nums k l).drop i).take m := by simp [nums, List.map_drop, List.map_take]
  rw [e, List.getElem?_take] at hj
  split at hj
  · rw [List.getElem?_drop] at hj
    obtain ⟨b', o', he, hc⟩ := h5 (i + j) u hj
    cases he
    rw [Nat.add_assoc]
    exact hc
  · simp at hj
theorem zero0 (k : IntKind) (w : World) (b o : Nat) : Nums k w (some ⟨b, o, none⟩) 0 0 [] := ⟨rfl, Nat.le_refl _, Nat.zero_le _, fun h => by simp at h, fun j u h => by simp [nums] at h⟩

set_option maxHeartbeats 1600000 in
theorem text_range (g : Nat) (a : Option Addr) (n cap : Nat) (l : List Nat) (p z k : Nat) (most : Int) (E0 E1 E2 : Addr) (w : World) (hR : Rd w g a n cap l p .nilIface) (h0 : Err.At w 2 E0) (h1 : Err.At w 3 E1) (h2 : Err.At w 0 E2)
    (hd : dec 0 0 (l.drop p) = .num z k) (hz : zag z < 0 ∨ most < zag z) (hm : -9223372036854775808 ≤ most ∧ most ≤ 9223372036854775807) :
    Calls Tryd.prog 49 #[.pointer (some ⟨g, 0, none⟩), .int .i64 most] w fun e w' => (∃ h, w.heap.size ≤ h ∧ e = .returned (.string ⟨#[]⟩) ∧ Failed w' g a n cap l p E2 h) ∧ w.grownBy w' (some g) := by
  obtain ⟨c0, c1, c2, f1, f2⟩ := hR.cells
  go_enter Tryd.func49, Tryd.ntmps49
  go_wp2_with fail
  refine (num_bad g a n cap l p 0 most E0 E1 E2 E2 _ hR h0 h1 h2 (.inr (.inr ⟨z, k, hd, hz, rfl⟩))).mono ?_
  rintro e w1 ⟨⟨h, hh, rfl, hF⟩, hG⟩
  obtain ⟨c0, c1, c2', f1, f2⟩ := hF.1.cells
  unfold atv at c2'
  clear hd hz c2
  go_wp2_with fail
  go_ret
  exact ⟨⟨h, hh, rfl, hF⟩, hG⟩

set_option maxHeartbeats 1600000 in
theorem text_ok (g : Nat) (a : Option Addr) (n cap : Nat) (l : List Nat) (p z k m : Nat) (most : Int) (E0 E1 : Addr) (w : World) (hR : Rd w g a n cap l p .nilIface) (h0 : Err.At w 2 E0) (h1 : Err.At w 3 E1)
    (hd : dec 0 0 (l.drop p) = .num z k) (hz : zag z = (m : Int)) (hm : (m : Int) ≤ most) (hmost : most ≤ 9223372036854775807) (hfit : p + k + m ≤ n) :
    Calls Tryd.prog 49 #[.pointer (some ⟨g, 0, none⟩), .int .i64 most] w fun e w' => e = .returned (.string (ofTxt ((l.drop (p + k)).take m))) ∧ Rd w' g a n cap l (p + k + m) .nilIface ∧ w.grownBy w' (some g) := by
  have hsm := hR.small
  have hk := dec_pos _ _ _ _ _ hd
  obtain ⟨c0, c1, c2, f1, f2⟩ := hR.cells
  have cn := num_ok g a n cap l p z k 0 most E0 E1 w hR h0 h1 hd (by omega) (by omega)
  rw [hz] at cn
  clear hd hz h0 h1
  obtain ⟨u, hu⟩ : ∃ u, u = p + k := ⟨_, rfl⟩
  obtain ⟨t, ht⟩ : ∃ t, t = u + m := ⟨_, rfl⟩
  rw [← hu] at cn
  have HU := hid hu
  have HT := hid ht
  have htn : t ≤ n := by omega
  have htm : u + m ≤ n := by omega
  have hu0 : 0 < u := by omega
  have hw1 : IntKind.i64.wrap ((u : Int) + (m : Int)) = (t : Int) := by rw [IntWalk.i64_in _ (by omega)]; omega
  have hw2 : IntKind.i64.wrap ((t : Int) - (m : Int)) = (u : Int) := by rw [IntWalk.i64_in _ (by omega)]; omega
  have hut : u ≤ t := by omega
  have htu : t - u = m := by omega
  clear hu ht hfit
  go_enter Tryd.func49, Tryd.ntmps49
  go_wp2_with fail
  refine cn.mono ?_
  rintro e w1 ⟨rfl, R1, hG1⟩
  clear c0 c1 c2 f1 f2 cn hR
  obtain ⟨c0, c1, c2, f1, f2⟩ := R1.cells
  have d1 : decide (((n - u : Nat) : Int) < (m : Int)) = false := by rw [decide_eq_false_iff_not]; omega
  go_wp2_with fail
  refine (left_w g a n cap l u _ _ R1).mono ?_
  rintro e w2 ⟨rfl, hb2⟩
  have R2 := R1.below hb2
  have hG2 := on_trans hG1 (below_on hb2 g)
  clear c0 c1 c2 f1 f2 R1 hG1 hb2
  obtain ⟨c0, c1, c2, f1, f2⟩ := R2.cells
  have R3 : Rd (w2.setCell ⟨g, 1, none⟩ (.int .i64 (t : Int))) g a n cap l t .nilIface :=
    ⟨heap_setCell_same w2 g 1 _ _ _ R2.blk, Row.keep R2.row fun b o he hl => heap_setCell_other w2 ⟨g, 1, none⟩ b _ (R2.apart b o he), R2.byte, htn, hsm, R2.apart⟩
  have hG3 := on_trans hG2 (on_set w2 g 1 (.int .i64 (t : Int)))
  go_upto_region 10 with fail
  generalize w2.setCell ⟨g, 1, none⟩ (.int .i64 (t : Int)) = W at *
  clear c0 c1 c2 f1 f2 R2 hG2
  obtain ⟨c0, c1, c2, f1, f2⟩ := R3.cells
  have hcp := R3.row.bound
  cases a with
  | none =>
    have := R3.row.2.2.2.1 rfl
    omega
  | some ad =>
    obtain ⟨b0, o0, ha, hc⟩ := R3.row.at (j := 0) (by rw [R3.row.len]; omega)
    cases ha
    have i1 : (0 : Int) ≤ (u : Int) := by omega
    have i2 : (u : Int) ≤ (t : Int) := by omega
    have i3 : (t : Int) ≤ (cap : Int) := by omega
    by_cases hcu : cap = u
    case' pos =>
      have hm0 : m = 0 := by omega
      have cv := fun q => conv (Nums.below (zero0 .u8 W b0 o0) (below_drewN (Below.refl _ _) q))
      have he : (l.drop (p + k)).take m = [] := by rw [hm0]; rfl
    case' neg =>
      have cv := fun q => conv (Nums.below (cut R3.row u m htm) (below_drewN (Below.refl _ _) q))
    all_goals
      go_quiet (fail)
      go_wp2_with fail
      go_ret
      have hb9 := below_drewN (Below.refl W.heap.size W) nq
      have R4 := R3.below hb9
      have hG4 := on_trans hG3 (below_on hb9 g)
      rw [HT.out, HU.out] at R4
      refine ⟨?_, R4, hG4⟩
    case' pos => exact congrArg Ending.returned (show Value.string (ofTxt []) = Value.string (ofTxt ((l.drop (p + k)).take m)) by rw [he])
    case' neg => exact congrArg Ending.returned (show Value.string (ofTxt ((l.drop u).take m)) = Value.string (ofTxt ((l.drop (p + k)).take m)) by rw [HU.out])
end Go.Proofs.YtdgbgdkfoeoppaaDoor.Wire
