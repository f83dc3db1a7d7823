/- An armed device behind some calls. -/
import Derived.Test.YtlljpljfmaaejaaDoorDevWhole
namespace Go.Proofs.YtlljpljfmaaejaaDoor.DevL
open Go Go.RowKit Go.Maps Go.Proofs.YtlljpljfmaaejaaDoor.Mem Go.Proofs.YtlljpljfmaaejaaDoor.MapsW Go.Proofs.YtlljpljfmaaejaaDoor.SeeW Go.Proofs.YtlljpljfmaaejaaDoor.DevG
set_option linter.unusedVariables false
set_option maxRecDepth 100000

/-- what is known behind k calls of a device armed for the n-th -/
structure Armed (n k : Nat) (D : Dv) : Prop where
  blocks : D.blocks = 40
  fuse : D.fuse = n - k
  down : D.down = decide (1 ≤ n ∧ n ≤ k)
  fi : ∀ i, D.fi i = false
  np : D.np ≤ k
  calls : D.calls ≤ k
theorem Armed.tick {n k : Nat} {D : Dv} (h : Armed n k D) : D.tick.fuse = n - (k + 1) ∧ D.tick.down = decide (1 ≤ n ∧ n ≤ k + 1) := by
  have h1 := h.fuse
  have h2 := h.down
  by_cases hd : D.down = true
  · rw [Dv.tick_down hd]
    rw [hd] at h2
    have := of_decide_eq_true h2.symm
    exact ⟨by omega, by rw [hd]; exact (decide_eq_true (by omega)).symm⟩
  · have hd' : D.down = false := by simpa using hd
    rw [hd'] at h2
    have h3 := of_decide_eq_false h2.symm
    by_cases hf : D.fuse = 0
    · rw [Dv.tick_zero hf, hd']
      exact ⟨by omega, (decide_eq_false (by omega)).symm⟩
    · rw [Dv.tick_some hd' (by omega)]
      exact ⟨by show D.fuse - 1 = _; omega, by show decide (D.fuse = 1) = _; exact decide_eq_decide.2 (by omega)⟩
theorem Armed.still {n k : Nat} {D : Dv} (h : Armed n k D) : Armed n (k + 1) D.tick := by
  obtain ⟨t1, t2⟩ := h.tick
  obtain ⟨s1, s2, s3, s4, s5, s6, s7, s8, s9, s10⟩ := D.tick_same
  exact ⟨s1.trans h.blocks, t1, t2, fun i => by rw [s5]; exact h.fi i, by rw [s7]; have := h.np; omega, by rw [s9]; have := h.calls; omega⟩
theorem Armed.put {n k : Nat} {D : Dv} (h : Armed n k D) (i : Int) (l : List Nat) : Armed n (k + 1) (D.tick.put i l) := by
  obtain ⟨t1, t2⟩ := h.tick
  obtain ⟨s1, s2, s3, s4, s5, s6, s7, s8, s9, s10⟩ := D.tick_same
  refine ⟨s1.trans h.blocks, t1, t2, fun j => ?_, ?_, ?_⟩
  · show D.tick.fi j = false
    rw [s5]; exact h.fi j
  · show (if (D.tick.pe i).isSome then D.tick.np else D.tick.np + 1) ≤ k + 1
    rw [s7]
    have := h.np
    split <;> omega
  · show D.tick.calls + 1 ≤ k + 1
    rw [s9]
    have := h.calls
    omega
theorem Armed.flush {n k : Nat} {D : Dv} (h : Armed n k D) : Armed n (k + 1) D.tick.flush := by
  obtain ⟨t1, t2⟩ := h.tick
  obtain ⟨s1, s2, s3, s4, s5, s6, s7, s8, s9, s10⟩ := D.tick_same
  refine ⟨s1.trans h.blocks, t1, t2, fun j => ?_, ?_, ?_⟩
  · show (if (D.tick.pe j).isSome then false else D.tick.fi j) = false
    rw [s5, h.fi j]
    split <;> rfl
  · show 0 ≤ k + 1
    omega
  · show D.tick.calls + 1 ≤ k + 1
    rw [s9]
    have := h.calls
    omega
theorem Armed.start (n : Nat) : Armed n 0 { Dv.new 40 with fuse := n } :=
  ⟨rfl, by show n = n - 0; omega, by show false = _; exact (decide_eq_false (by omega)).symm, fun _ => rfl, Nat.le_refl _, Nat.le_refl _⟩
/-- what it has behind a crash -/
abbrev up (D : Dv) : Dv := { D with pe := fun _ => none, np := 0, down := false, fuse := 0 }
theorem Armed.get {n k : Nat} {D : Dv} (h : Armed n k D) (i : Int) (hi : 0 ≤ i ∧ i < 40) : ∃ l, (up D).get i = .ok l := by
  refine ⟨keptOf (up D) i, get_some rfl ?_ ?_⟩
  · show 0 ≤ i ∧ i < ((D.blocks : Nat) : Int)
    rw [h.blocks]; exact hi
  · unfold Dv.read
    show (match (none : Option (List Nat)) with
      | some l => some l
      | none => if D.fi i then none else some (keptOf (up D) i)) = _
    rw [h.fi i]
    rfl
theorem put_np_le (E : Dv) (i : Int) (l : List Nat) : (E.put i l).np ≤ E.np + 1 := by
  show (if (E.pe i).isSome then E.np else E.np + 1) ≤ _
  split <;> omega
end Go.Proofs.YtlljpljfmaaejaaDoor.DevL
