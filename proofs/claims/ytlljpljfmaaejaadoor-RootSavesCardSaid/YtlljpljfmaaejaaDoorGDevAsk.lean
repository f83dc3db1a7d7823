/- The walks of package dev that only ask, and Arm. -/
import Derived.Test.YtlljpljfmaaejaaDoorGDevMore
namespace Go.Proofs.YtlljpljfmaaejaaDoor.DevG
open Go Go.RowKit Go.Maps Go.Proofs.YtlljpljfmaaejaaDoor.Mem Go.Proofs.YtlljpljfmaaejaaDoor.MapsW Go.Proofs.YtlljpljfmaaejaaDoor.SeeW
set_option linter.unusedVariables false
set_option maxRecDepth 100000

theorem down_w (d lo n : Nat) (m : Mp) (D : Dv) (w : World) (h : At w lo d n m D) :
    Calls Tryd.prog 28 #[ptr d] w fun e w' => e = .returned (.bool D.down) ∧ w = w' := by
  obtain ⟨c0, c1, c2, c3, c4, c5, c6, c7, c8, f6, f2, f7, f8⟩ := h.c
  go_enter Tryd.func28, Tryd.ntmps28
  go_wp2
  go_ret
  exact ⟨rfl, rfl⟩
theorem calls_w (d lo n : Nat) (m : Mp) (D : Dv) (w : World) (h : At w lo d n m D) :
    Calls Tryd.prog 23 #[ptr d] w fun e w' => e = .returned (.int .i64 D.calls) ∧ w = w' := by
  obtain ⟨c0, c1, c2, c3, c4, c5, c6, c7, c8, f6, f2, f7, f8⟩ := h.c
  go_enter Tryd.func23, Tryd.ntmps23
  go_wp2
  go_ret
  exact ⟨rfl, rfl⟩
theorem ever_w (d lo n : Nat) (m : Mp) (D : Dv) (w : World) (h : At w lo d n m D) :
    Calls Tryd.prog 33 #[ptr d] w fun e w' => e = .returned (.int .i64 D.ne) ∧ w = w' := by
  obtain ⟨c0, c1, c2, c3, c4, c5, c6, c7, c8, f6, f2, f7, f8⟩ := h.c
  obtain ⟨E, hE, hnp⟩ := h.be.len
  have hl := hE.len Tryd.underlying109 3
  rw [hnp] at hl
  clear h hE hnp
  go_enter Tryd.func33, Tryd.ntmps33
  go_wp2
  go_ret
  exact ⟨rfl, rfl⟩
theorem arm_w (d lo n : Nat) (m : Mp) (D : Dv) (i : Nat) (w : World) (h : At w lo d n m D) (hi : i ≤ 1000000) :
    Calls Tryd.prog 25 #[ptr d, .int .i64 i] w fun e w' => e = .returned (.tuple #[]) ∧ At w' lo d n m { D with fuse := i } ∧ Turn [d] w w' := by
  obtain ⟨c0, c1, c2, c3, c4, c5, c6, c7, c8, f6, f2, f7, f8⟩ := h.c
  go_enter Tryd.func25, Tryd.ntmps25
  go_wp2
  refine bodyPost_end (v := .tuple #[]) (by simp [results, Tryd.results25, go_sem]) rfl ?_
  exact ⟨rfl, h.setFuse i, Turn.setCell w d 7 _ (by simp)⟩
theorem raw_no (d lo n : Nat) (m : Mp) (D : Dv) (i : Int) (a : Option Addr) (len cap : Nat) (w : World) (h : At w lo d n m D) (hf : Fits i) (hl : len ≤ 100000) (hno : ¬ (0 ≤ i ∧ i < D.blocks) ∨ len ≠ 256) :
    Calls Tryd.prog 19 #[ptr d, .int .i64 i, .slice a len cap] w fun e w' => e = .returned (.bool false) ∧ w = w' := by
  by_cases hi : 0 ≤ i ∧ i < D.blocks
  · have hd : decide (0 ≤ i ∧ i < D.blocks) = true := decide_eq_true hi
    have hx : ((len : Int) != 256) = true := by rw [bne_iff_ne]; rcases hno with q | q; exact absurd hi q; omega
    clear hi hno
    go_enter Tryd.func19, Tryd.ntmps19
    go_wp2_with fail
    refine (is_w d lo n m D i _ h hf).mono ?_
    rintro e w' ⟨rfl, rfl⟩
    rw [hd]
    go_wp2
    go_ret
    exact ⟨rfl, rfl⟩
  · have hd : decide (0 ≤ i ∧ i < D.blocks) = false := decide_eq_false hi
    clear hi hno
    go_enter Tryd.func19, Tryd.ntmps19
    go_wp2_with fail
    refine (is_w d lo n m D i _ h hf).mono ?_
    rintro e w' ⟨rfl, rfl⟩
    rw [hd]
    go_wp2
    go_ret
    exact ⟨rfl, rfl⟩
end Go.Proofs.YtlljpljfmaaejaaDoor.DevG
