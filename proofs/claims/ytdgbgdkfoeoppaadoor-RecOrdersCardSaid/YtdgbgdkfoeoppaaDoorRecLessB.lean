/- Places and bytes in order: Less, Ahead. -/
import Derived.Test.YtdgbgdkfoeoppaaDoorRecLess
import Derived.Deep.RegionHeld3
namespace Go.Proofs.YtdgbgdkfoeoppaaDoor.RecW
open Go Go.RowKit Go.Proofs.YtdgbgdkfoeoppaaDoor.Mem Go.Proofs.YtdgbgdkfoeoppaaDoor.RefW Go.Proofs.YtdgbgdkfoeoppaaDoor.Text
set_option linter.unusedVariables false
set_option maxRecDepth 100000

/-- bytes ahead of bytes -/
def lt : List Nat → List Nat → Bool
  | _, [] => false
  | [], _ :: _ => true
  | a :: x, b :: y => decide (a < b) || (a == b && lt x y)
theorem lt_self (x : List Nat) : lt x x = false := by
  induction x with
  | nil => rfl
  | cons a x ih => simp [lt, ih]
theorem lt_append (p x y : List Nat) : lt (p ++ x) (p ++ y) = lt x y := by
  induction p with
  | nil => rfl
  | cons a p ih => simp [lt, ih]
theorem lt_at {l l' : List Nat} {k x y : Nat} (h : l.take k = l'.take k) (hk : l[k]? = some x) (hk' : l'[k]? = some y) (hne : x ≠ y) : lt l l' = decide (x < y) := by
  obtain ⟨a, rfl⟩ := List.getElem?_eq_some_iff.1 hk
  obtain ⟨b, rfl⟩ := List.getElem?_eq_some_iff.1 hk'
  have e : lt l l' = lt (l.take k ++ l.drop k) (l'.take k ++ l'.drop k) := by rw [List.take_append_drop, List.take_append_drop]
  rw [e, h, lt_append, List.drop_eq_getElem_cons a, List.drop_eq_getElem_cons b, lt]
  have : (l[k] == l'[k]) = false := by simpa using hne
  rw [this, Bool.false_and, Bool.or_false]
theorem lt_end {l l' : List Nat} (h : l.take (min l.length l'.length) = l'.take (min l.length l'.length)) : lt l l' = decide (l.length < l'.length) := by
  rcases Nat.lt_or_ge l.length l'.length with hl | hl
  · rw [Nat.min_eq_left (by omega), List.take_length] at h
    have e : l' = l ++ l'.drop l.length := by
      conv => lhs; rw [← List.take_append_drop l.length l', ← h]
    have hd : l'.drop l.length ≠ [] := by
      intro e'
      have := congrArg List.length e'
      simp at this; omega
    have e2 : l = l ++ [] := by simp
    rw [decide_eq_true hl]
    conv => lhs; rw [e, e2]
    rw [List.append_nil]
    conv => lhs; arg 1; rw [e2]
    rw [lt_append]
    cases hc : l'.drop l.length with
    | nil => exact absurd hc hd
    | cons a y => rfl
  · rw [Nat.min_eq_right hl, List.take_length] at h
    have e : l = l' ++ l.drop l'.length := by
      conv => lhs; rw [← List.take_append_drop l'.length l, h]
    rw [decide_eq_false (by omega)]
    conv => lhs; rw [e]; arg 2; rw [← List.append_nil l']
    rw [lt_append]
    cases l.drop l'.length <;> rfl

set_option maxHeartbeats 1600000 in
theorem ahead_w (a : Option Addr) (n cap : Nat) (l : List Nat) (b : Option Addr) (m cap' : Nat) (l' : List Nat) (w : World) (h0 : Nums .u8 w a n cap l) (h1 : Nums .u8 w b m cap' l') :
    Calls Tryd.prog 52 #[.slice a n cap, .slice b m cap'] w fun e w' => e = .returned (.bool (lt l l')) ∧ Below w.heap.size w w' := by
  have HL0 := hid h0.len
  have HL1 := hid h1.len
  obtain ⟨c1, c2⟩ := h0.bound
  obtain ⟨c3, c4⟩ := h1.bound
  go_enter Tryd.func52, Tryd.ntmps52
  go_wp2
  all_goals
    go_loopw [6] (fun i wr => ∃ k : Nat, k ≤ min n m ∧ i = .int .i64 k ∧ l.take k = l'.take k ∧ Below w.heap.size w wr) (fun i _ => min n m - (intOf i).toNat)
    case atStart => exact ⟨0, by omega, rfl, by simp, Below.refl _ _⟩
    case round =>
      obtain ⟨k, hk, rfl, hT, hb⟩ := hrel
      have HT := hid hT
      clear hT
      by_cases hlt : k < min n m
      · have hkl : k < l.length := by rw [HL0.out]; omega
        have hkl' : k < l'.length := by rw [HL1.out]; omega
        obtain ⟨b0, o0, rfl, hc0⟩ := (h0.below hb).at hkl
        obtain ⟨b1, o1, rfl, hc1⟩ := (h1.below hb).at hkl'
        have HS0 := hid (List.take_succ_eq_append_getElem hkl)
        have HS1 := hid (List.take_succ_eq_append_getElem hkl')
        have HE0 := hid (List.getElem?_eq_getElem hkl)
        have HE1 := hid (List.getElem?_eq_getElem hkl')
        generalize l[k] = x at hc0 HS0 HE0
        generalize l'[k] = y at hc1 HS1 HE1
        have k1 : (k : Int) < n := by omega
        have k2 : (k : Int) < m := by omega
        clear h0 h1
        by_cases hxy : x = y
        · subst hxy
          go_wp2
          go_quiet (fail)
          go_wp2
          go_roundw
          case rel => exact ⟨k + 1, by omega, by go_num, by rw [HS0.out, HS1.out, HT.out], below_drewN hb _⟩
          case measure => simp [intOf]; omega
        · have hne : ((x : Int) != (y : Int)) = true := by simp; omega
          go_wp2
          go_quiet (fail)
          go_wp2
          go_quiet (fail)
          go_wp2
          go_ret
          refine ⟨ret_bool ?_, below_drewN (below_drewN hb _) _⟩
          rw [lt_at HT.out HE0.out HE1.out hxy]
      · have HN := hid (show l.take (min l.length l'.length) = l'.take (min l.length l'.length) by rw [HL0.out, HL1.out, show min n m = k by omega]; exact HT.out)
        have hkm : k = m ∨ k = n := by omega
        rcases hkm with rfl | rfl
        all_goals first | (exfalso; omega) | skip
        all_goals
          go_wp2
          go_ret
          refine ⟨ret_bool ?_, hb⟩
          rw [lt_end HN.out, HL0.out, HL1.out]
end Go.Proofs.YtdgbgdkfoeoppaaDoor.RecW
