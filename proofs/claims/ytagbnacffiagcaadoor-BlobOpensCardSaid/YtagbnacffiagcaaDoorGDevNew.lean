/- The walk of package dev's New. -/
import Derived.Test.YtagbnacffiagcaaDoorGDevFlush
namespace Go.Proofs.YtagbnacffiagcaaDoor.DevG
open Go Go.RowKit Go.Maps Go.Proofs.YtagbnacffiagcaaDoor.Mem Go.Proofs.YtagbnacffiagcaaDoor.MapsW Go.Proofs.YtagbnacffiagcaaDoor.SeeW
set_option linter.unusedVariables false
set_option maxRecDepth 100000

/-- a new device -/
def Dv.new (b : Nat) : Dv := { blocks := b, fl := fun _ => none, pe := fun _ => none, fa := fun _ => false, fi := fun _ => false, ev := fun _ => false, np := 0, ne := 0, calls := 0 }
abbrev mp (s : Nat) : Mp := ⟨s, s + 1, s + 2, s + 3, s + 4⟩
abbrev MO : Obj := .map #[] 0
theorem alloc_old {w : World} {o o' : Obj} {k : Nat} (h : w.heap[k]? = some o') : (w.alloc o).heap[k]? = some o' := by
  rw [((Below.refl w.heap.size w).alloc (Nat.le_refl _) o).block k (Array.getElem?_eq_some_iff.1 h).1]; exact h
theorem alloc_at {w : World} {k : Nat} (h : w.heap.size = k) (o : Obj) : (w.alloc o).heap[k]? = some o := by
  subst h; exact heap_alloc_new _ _
theorem rows_at {w : World} {base b : Nat} (h : w.heap[b]? = some MO) : RowMap w base b 0 (fun _ => none) 0 := by
  obtain ⟨D, h1, h2, h3⟩ := RowMap.made w base
  obtain ⟨es, ck, hb, h4⟩ := h1
  rw [heap_alloc_new] at hb
  cases hb
  exact ⟨D, ⟨_, _, h, h4⟩, h2, fun i => h3 i⟩
theorem bools_at {w : World} {b : Nat} (h : w.heap[b]? = some MO) : BoolMap w b 0 (fun _ => false) := by
  obtain ⟨D, h1, h2⟩ := BoolMap.made w
  obtain ⟨es, ck, hb, h4⟩ := h1
  rw [heap_alloc_new] at hb
  cases hb
  exact ⟨D, ⟨_, _, h, h4⟩, h2⟩

theorem sets_at {w : World} {b : Nat} (h : w.heap[b]? = some MO) : SetMap w b 0 (fun _ => false) 0 := by
  obtain ⟨D, h1, h2⟩ := SetMap.made w
  obtain ⟨es, ck, hb, h4⟩ := h1
  rw [heap_alloc_new] at hb
  cases hb
  exact ⟨D, ⟨_, _, h, h4⟩, h2⟩

theorem new_w (b : Nat) (w : World) (h1 : 1 ≤ b) (h2 : b ≤ 6000) :
    Calls Tryd.prog 33 #[.int .i64 b] w fun e w' => e = .returned (.tuple #[ptr (w.heap.size + 5), .nilIface]) ∧ At w' w.heap.size (w.heap.size + 5) 0 (mp w.heap.size) (Dv.new b) ∧ Below w.heap.size w w' ∧ w'.heap.size = w.heap.size + 6 := by
  have hmm := @run_makeMap Tryd.prog
  go_enter Tryd.func33, Tryd.ntmps33
  go_wp2
  have s1 : (w.alloc MO).heap.size = w.heap.size + 1 := by simp
  have s2 : ((w.alloc MO).alloc MO).heap.size = w.heap.size + 2 := by simp
  have s3 : (((w.alloc MO).alloc MO).alloc MO).heap.size = w.heap.size + 3 := by simp
  have s4 : ((((w.alloc MO).alloc MO).alloc MO).alloc MO).heap.size = w.heap.size + 4 := by simp
  have s5 : (((((w.alloc MO).alloc MO).alloc MO).alloc MO).alloc MO).heap.size = w.heap.size + 5 := by simp
  have hb : ∀ o, Below w.heap.size w ((((((w.alloc MO).alloc MO).alloc MO).alloc MO).alloc MO).alloc o) := fun o =>
    ((((((Below.refl _ w).alloc (Nat.le_refl _) MO).alloc (by omega) MO).alloc (by omega) MO).alloc (by omega) MO).alloc (by omega) MO).alloc (by omega) o
  refine bodyPost_ret (v := .tuple #[ptr (w.heap.size + 5), .nilIface]) (by simp [results, Tryd.results33, go_sem]) rfl ⟨rfl, ?_, hb _, by simp⟩
  refine ⟨alloc_at s5 _, ⟨0, rows_at (alloc_old (alloc_old (alloc_old (alloc_old (alloc_old (alloc_at rfl _))))))⟩, rows_at (alloc_old (alloc_old (alloc_old (alloc_old (alloc_at s1 _))))), bools_at (alloc_old (alloc_old (alloc_old (alloc_at s2 _)))), bools_at (alloc_old (alloc_old (alloc_at s3 _))), sets_at (alloc_old (alloc_at s4 _)), ?_, by omega, ?_⟩
  · simp [Mp.list]
  · intro x hx
    simp [Mp.list] at hx
    omega
/-- a device that is none -/
theorem new_no (bs : List Addr) (lo : Nat) (b : Int) (w : World) (hB : Ev w lo bs five) (hf : Fits b) (h : b < 1 ∨ 6000 < b) :
    Calls Tryd.prog 33 #[.int .i64 b] w fun e w' => (∃ a, bs[2]? = some a ∧ e = .returned (.tuple #[.pointer none, ev a])) ∧ Below w.heap.size w w' := by
  obtain ⟨aF, haF, hAF⟩ := hB.get 2 _ (by decide) rfl
  have hA1 := hAF.1
  rcases h with h | h
  · have h1 : decide (b < 1) = true := decide_eq_true h
    go_enter Tryd.func33, Tryd.ntmps33
    go_wp2
    go_quiet (fail)
    go_wp2
    refine bodyPost_ret (v := .tuple #[.pointer none, ev aF]) (by simp [results, Tryd.results33, go_sem]) rfl ⟨⟨aF, haF, rfl⟩, below_drewN (Below.refl _ _) _⟩
  · have h1 : decide (b < 1) = false := decide_eq_false (by omega)
    have h2 : decide (6000 < b) = true := decide_eq_true h
    go_enter Tryd.func33, Tryd.ntmps33
    go_wp2
    go_quiet (fail)
    go_wp2
    refine bodyPost_ret (v := .tuple #[.pointer none, ev aF]) (by simp [results, Tryd.results33, go_sem]) rfl ⟨⟨aF, haF, rfl⟩, below_drewN (Below.refl _ _) _⟩
end Go.Proofs.YtagbnacffiagcaaDoor.DevG
