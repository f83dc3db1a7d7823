/- The walks of package dev that only ask. -/
import Derived.Test.YtjecnjgngahmfaaDoorDev
namespace Go.Proofs.YtjecnjgngahmfaaDoor.DevW
open Go Go.RowKit Go.Maps Go.Proofs.YtjecnjgngahmfaaDoor.Mem Go.Proofs.YtjecnjgngahmfaaDoor.MapsW Go.Proofs.YtjecnjgngahmfaaDoor.SeeW
set_option linter.unusedVariables false
set_option maxRecDepth 100000

abbrev ptr (d : Nat) : Value := .pointer (some ⟨d, 0, none⟩)
theorem At.c {w : World} {lo d n : Nat} {m : Mp} {D : Dv} (h : At w lo d n m D) :
    w.cell? ⟨d, 0, none⟩ = some (.int .i64 D.blocks) ∧ w.cell? ⟨d, 1, none⟩ = some (.map (some m.f)) ∧ w.cell? ⟨d, 2, none⟩ = some (.map (some m.p)) ∧ w.cell? ⟨d, 3, none⟩ = some (.map (some m.a)) ∧
    w.cell? ⟨d, 4, none⟩ = some (.map (some m.i)) ∧ w.cell? ⟨d, 5, none⟩ = some (.map (some m.e)) ∧ w.cell? ⟨d, 6, none⟩ = some (.int .i64 D.calls) ∧ w.cell? ⟨d, 7, none⟩ = some (.int .i64 0) ∧ w.cell? ⟨d, 8, none⟩ = some (.bool false) ∧
    w.frozen? ⟨d, 6, none⟩ = false ∧ w.frozen? ⟨d, 2, none⟩ = false := by
  have := h.cells
  simp [World.cell?, World.frozen?, this]

theorem blocks_w (d lo n : Nat) (m : Mp) (D : Dv) (w : World) (h : At w lo d n m D) :
    Calls Tryd.prog 83 #[ptr d] w fun e w' => e = .returned (.int .i64 D.blocks) ∧ w = w' := by
  obtain ⟨c0, c1, c2, c3, c4, c5, c6, c7, c8, f6, f2⟩ := h.c
  go_enter Tryd.func83, Tryd.ntmps83
  go_wp2
  go_ret
  exact ⟨rfl, rfl⟩

theorem is_w (d lo n : Nat) (m : Mp) (D : Dv) (i : Int) (w : World) (h : At w lo d n m D) (hi : Fits i) :
    Calls Tryd.prog 71 #[ptr d, .int .i64 i] w fun e w' => e = .returned (.bool (decide (0 ≤ i ∧ i < D.blocks))) ∧ w = w' := by
  obtain ⟨c0, c1, c2, c3, c4, c5, c6, c7, c8, f6, f2⟩ := h.c
  clear h
  by_cases h0 : 0 ≤ i
  · by_cases h1 : i < D.blocks
    · go_enter Tryd.func71, Tryd.ntmps71
      go_wp2
      go_ret
      exact ⟨ret_bool (by simp [h0, h1]), rfl⟩
    · have h2 : decide (i < (D.blocks : Int)) = false := decide_eq_false h1
      go_enter Tryd.func71, Tryd.ntmps71
      go_wp2
      go_ret
      exact ⟨ret_bool (by simp), rfl⟩
  · have h2 : decide ((0 : Int) ≤ i) = false := decide_eq_false h0
    go_enter Tryd.func71, Tryd.ntmps71
    go_wp2
    go_ret
    exact ⟨ret_bool (by simp), rfl⟩

theorem gone_w (d lo n : Nat) (m : Mp) (D : Dv) (w : World) (h : At w lo d n m D) :
    Calls Tryd.prog 62 #[ptr d] w fun e w' => e = .returned (.bool false) ∧ w = w' := by
  obtain ⟨c0, c1, c2, c3, c4, c5, c6, c7, c8, f6, f2⟩ := h.c
  go_enter Tryd.func62, Tryd.ntmps62
  go_wp2
  go_ret
  exact ⟨rfl, rfl⟩

theorem pending_w (d lo n : Nat) (m : Mp) (D : Dv) (w : World) (h : At w lo d n m D) :
    Calls Tryd.prog 32 #[ptr d] w fun e w' => e = .returned (.int .i64 D.np) ∧ w = w' := by
  obtain ⟨c0, c1, c2, c3, c4, c5, c6, c7, c8, f6, f2⟩ := h.c
  obtain ⟨E, hE, hnp, _⟩ := h.rp
  have hl := hE.len Tryd.underlying101 3
  rw [hnp] at hl
  clear h hE hnp
  go_enter Tryd.func32, Tryd.ntmps32
  go_wp2
  go_ret
  exact ⟨rfl, rfl⟩

theorem faulted_w (d lo n : Nat) (m : Mp) (D : Dv) (i : Int) (w : World) (h : At w lo d n m D) (hi : Fits i) :
    Calls Tryd.prog 38 #[ptr d, .int .i64 i] w fun e w' => e = .returned (.bool (D.fa i)) ∧ w = w' := by
  obtain ⟨c0, c1, c2, c3, c4, c5, c6, c7, c8, f6, f2⟩ := h.c
  have hl := h.ba.look hi
  clear h
  go_enter Tryd.func38, Tryd.ntmps38
  go_wp2
  go_ret
  exact ⟨rfl, rfl⟩

/-- what lies there for good -/
def keptOf (D : Dv) (i : Int) : List Nat := (D.fl i).getD (List.replicate 256 0)
set_option maxHeartbeats 800000 in
theorem kept_w (d lo n : Nat) (m : Mp) (D : Dv) (i : Int) (w : World) (h : At w lo d n m D) (hi : Fits i) :
    Calls Tryd.prog 67 #[ptr d, .int .i64 i] w fun e w' => ∃ g cap, e = .returned (.slice (some ⟨g, 0, none⟩) 256 cap) ∧ Nums .u8 w' (some ⟨g, 0, none⟩) 256 cap (keptOf D i) ∧ d < g ∧ Below w.heap.size w w' := by
  obtain ⟨c0, c1, c2, c3, c4, c5, c6, c7, c8, f6, f2⟩ := h.c
  obtain ⟨k, hk⟩ := h.rf
  have hd := h.dlt
  cases hF : D.fl i with
  | none =>
    have hl := hk.look_none hi hF
    have e : keptOf D i = List.replicate 256 0 := by unfold keptOf; rw [hF]; rfl
    rw [e]
    clear h hk hF e
    go_enter Tryd.func67, Tryd.ntmps67
    go_wp2_with (at_make; go_must (refine wpList_mkn RefW.elU8 rfl _ _ rfl w.heap.size _ _ _ _ 256 rfl rfl rfl rfl (by decide) (by decide) (Nat.le_refl _) ?_); intro w1 hown1 hg1)
    go_ret
    rw [RefW.made_nums] at hown1
    exact ⟨_, _, rfl, OwnN.nums hown1, hd, below_growns hg1 (Nat.le_refl _)⟩
  | some l =>
    obtain ⟨g, cap, hl, hn, hg⟩ := hk.look_some hi hF
    have e : keptOf D i = l := by unfold keptOf; rw [hF]; rfl
    rw [e]
    clear h hk hF e
    go_enter Tryd.func67, Tryd.ntmps67
    go_wp2
    go_ret
    exact ⟨_, _, rfl, hn, by omega, Below.refl _ _⟩
end Go.Proofs.YtjecnjgngahmfaaDoor.DevW
