/- The walks of a reader that fails, and of its numbers. -/
import Derived.Test.YtdgbgdkfoeoppaaDoorWireRead
namespace Go.Proofs.YtdgbgdkfoeoppaaDoor.Wire
open Go Go.RowKit Go.Proofs.YtdgbgdkfoeoppaaDoor.Mem Go.Proofs.YtdgbgdkfoeoppaaDoor.RefW Go.Proofs.YtdgbgdkfoeoppaaDoor.Text
set_option linter.unusedVariables false
set_option maxRecDepth 100000

/-- an error with a place, at a block -/
def atv (h : Nat) : Value := .iface 95 (.pointer (some ⟨h, 0, none⟩))
/-- only block g, of the old ones, is another -/
theorem on_below {w w' : World} {g B : Nat} (h : w.grownBy w' (some g)) (hg : B ≤ g) (hB : B ≤ w.heap.size) : Below B w w' :=
  (Below.refl B w).grown h hB (fun k hk => by cases hk; exact hg)
theorem below_on {w w' : World} (h : Below w.heap.size w w') (g : Nat) : w.grownBy w' (some g) := ⟨h.os, h.tape, h.output, h.size, fun k hk _ => h.block k hk⟩
theorem on_trans {a b c : World} {g : Nat} (h : a.grownBy b (some g)) (k : b.grownBy c (some g)) : a.grownBy c (some g) := by
  obtain ⟨h1, h2, h3, h4, h5⟩ := h
  obtain ⟨k1, k2, k3, k4, k5⟩ := k
  exact ⟨k1.trans h1, k2.trans h2, k3.trans h3, Nat.le_trans h4 k4, fun i hi hne => (k5 i (Nat.lt_of_lt_of_le hi h4) hne).trans (h5 i hi hne)⟩
theorem on_set (w : World) (g i : Nat) (v : Value) : w.grownBy (w.setCell ⟨g, i, none⟩ v) (some g) :=
  ⟨rfl, rfl, rfl, by simp, fun k _ hk => heap_setCell_other w ⟨g, i, none⟩ k v (fun e => hk (by simp [e]))⟩

set_option maxHeartbeats 800000 in
/-- an error noted -/
theorem fail_w (g : Nat) (a : Option Addr) (n cap : Nat) (l : List Nat) (p : Nat) (E : Value) (A : Addr) (w : World) (hR : Rd w g a n cap l p E) :
    Calls Tryd.prog 63 #[.pointer (some ⟨g, 0, none⟩), SeeW.ev A] w fun e w' => ∃ h, e = .returned (.tuple #[]) ∧ w.heap.size ≤ h ∧ Rd w' g a n cap l p (atv h) ∧ w'.heap[h]? = some (.cells #[.int .i64 (p : Int), SeeW.ev A] 97 (0, 0)) ∧ w.grownBy w' (some g) := by
  obtain ⟨c0, c1, c2, f1, f2⟩ := hR.cells
  have hlt := hR.lt
  go_enter Tryd.func63, Tryd.ntmps63
  go_wp2
  have hb := heap_setCell_same w g 2 _ _ (atv w.heap.size) hR.blk
  have hG : w.grownBy ((w.setCell ⟨g, 2, none⟩ (atv w.heap.size)).alloc (.cells #[.int .i64 (p : Int), SeeW.ev A] 97)) (some g) :=
    on_trans (on_set w g 2 _) (World.grownBy_alloc _ _ _)
  have hN : Rd ((w.setCell ⟨g, 2, none⟩ (atv w.heap.size)).alloc (.cells #[.int .i64 (p : Int), SeeW.ev A] 97)) g a n cap l p (atv w.heap.size) := by
    refine ⟨?_, ?_, hR.byte, hR.le, hR.small, hR.apart⟩
    · rw [Go.heap_alloc_old (w.setCell ⟨g, 2, none⟩ (atv w.heap.size)) _ (by simpa using hlt)]
      exact hb
    · exact Row.keep hR.row fun b o he hl => hG.block b hl (fun e => hR.apart b o he (by cases e; rfl))
  refine bodyPost_end (v := .tuple #[]) (by simp [results, Tryd.results63, go_sem]) rfl ⟨w.heap.size, rfl, Nat.le_refl _, hN, ?_, hG⟩
  have := heap_alloc_new (w.setCell ⟨g, 2, none⟩ (atv w.heap.size)) (.cells #[.int .i64 (p : Int), SeeW.ev A] 97)
  rw [World.size_setCell] at this
  exact this

theorem dec_le : ∀ (r : List Nat) (i acc z k : Nat), dec i acc r = .num z k → k ≤ i + r.length := by
  intro r
  induction r with
  | nil => intro i acc z k h; simp [dec] at h
  | cons c r ih =>
    intro i acc z k h
    rw [dec] at h
    split at h
    · simp at h
    · split at h
      · have := ih _ _ _ _ h
        rw [List.length_cons]; omega
      · split at h
        · simp at h
        · simp at h
          rw [List.length_cons]; omega

set_option maxHeartbeats 1600000 in
/-- a number within its bounds -/
theorem num_ok (g : Nat) (a : Option Addr) (n cap : Nat) (l : List Nat) (p z k : Nat) (lo hi : Int) (E0 E1 : Addr) (w : World) (hR : Rd w g a n cap l p .nilIface) (h0 : Err.At w 2 E0) (h1 : Err.At w 3 E1)
    (hd : dec 0 0 (l.drop p) = .num z k) (hlo : lo ≤ zag z) (hhi : zag z ≤ hi) :
    Calls Tryd.prog 40 #[.pointer (some ⟨g, 0, none⟩), .int .i64 lo, .int .i64 hi] w fun e w' => e = .returned (.int .i64 (zag z)) ∧ Rd w' g a n cap l (p + k) .nilIface ∧ w.grownBy w' (some g) := by
  obtain ⟨c0, c1, c2, f1, f2⟩ := hR.cells
  have hk := dec_le _ _ _ _ _ hd
  rw [List.length_drop, hR.row.len] at hk
  have hle := hR.le
  have hsm := hR.small
  have cn := number_w g a n cap l p .nilIface E0 E1 w hR h0 h1
  rw [hd] at cn
  have d1 : decide (zag z < lo) = false := by rw [decide_eq_false_iff_not]; omega
  have d2 : decide (hi < zag z) = false := by rw [decide_eq_false_iff_not]; omega
  have hw1 : IntKind.i64.wrap ((p : Int) + (k : Int)) = ((p + k : Nat) : Int) := by rw [IntWalk.i64_in _ (by omega)]; omega
  clear hd h0 h1
  go_enter Tryd.func40, Tryd.ntmps40
  go_wp2_with fail
  refine cn.mono ?_
  rintro e w1 ⟨rfl, hb1⟩
  have R1 := hR.below hb1
  obtain ⟨c0, c1, c2, f1, f2⟩ := R1.cells
  have hG := below_on hb1 g
  clear hb1 cn
  rw [show ans E0 E1 (.num z k) = .tuple #[.int .i64 (zag z), .int .i64 (k : Int), .nilIface] from rfl]
  go_wp2_with fail
  go_ret
  refine ⟨rfl, ⟨heap_setCell_same w1 g 1 _ _ _ R1.blk, ?_, R1.byte, by omega, hsm, R1.apart⟩, on_trans hG (on_set w1 g 1 _)⟩
  exact Row.keep R1.row fun b o he hl => heap_setCell_other w1 ⟨g, 1, none⟩ b _ (R1.apart b o he)
end Go.Proofs.YtdgbgdkfoeoppaaDoor.Wire
