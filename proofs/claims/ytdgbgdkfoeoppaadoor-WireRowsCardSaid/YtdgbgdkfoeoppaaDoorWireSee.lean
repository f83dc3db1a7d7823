/- An error with a place, as plain data. -/
import Derived.Test.YtdgbgdkfoeoppaaDoorWireBad
import Derived.Deep.RegionHeld
import Derived.Deep.CutRange
namespace Go.Proofs.YtdgbgdkfoeoppaaDoor.Wire
open Go Go.RowKit Go.Proofs.YtdgbgdkfoeoppaaDoor.Mem Go.Proofs.YtdgbgdkfoeoppaaDoor.RefW Go.Proofs.YtdgbgdkfoeoppaaDoor.Text Go.Proofs.YtdgbgdkfoeoppaaDoor.SeeW
set_option linter.unusedVariables false
set_option maxRecDepth 100000

theorem placed_w (c q : Int) (w : World) (hc : c ≠ 0) :
    Calls Tryd.prog 43 #[.int .i64 c, .int .i64 q] w fun e w' => e = .returned (Ft c true q) ∧ Below w.heap.size w w' := by
  have d1 : (c == 0) = false := by simpa using hc
  go_enter Tryd.func43, Tryd.ntmps43
  go_wp2_with fail
  refine bodyPost_ret (v := Ft c true q) (by simp [results, Tryd.results43, go_sem]) rfl ⟨rfl, (Below.refl _ _).alloc (Nat.le_refl _) _⟩

theorem samep_w (v : Value) (m c : Int) (p p' : Bool) (q q' : Int) (w : World) (hf : ∀ w1, Below w.heap.size w w1 → Calls Tryd.prog 65 #[v] w1 fun e w' => e = .returned (Ft m p q) ∧ Below w1.heap.size w1 w') :
    Calls Tryd.prog 41 #[v, Ft c p' q'] w fun e w' => e = .returned (.bool (m == c && p == p' && q == q')) ∧ Below w.heap.size w w' := by
  go_enter Tryd.func41, Tryd.ntmps41
  go_wp2_with fail
  have hz : ∀ (o : Obj), (w.alloc o).drew.heap.size = (w.alloc o).heap.size := fun _ => rfl
  go_region_with (first
    | (go_at_call 65; refine (hf _ (((Below.refl _ _).alloc (Nat.le_refl _) _).drew)).mono ?_; rintro e w1 ⟨rfl, hb1⟩; have hb1 := ((Below.refl _ _).drew).trans hb1; obtain ⟨c0, c1, c2, f0, f1, f2⟩ := three (three_new hb1))
    | (go_at_call 64; refine (samefault_w m c p p' q q' _).mono ?_; rintro e w2 ⟨rfl, hb2⟩))
  all_goals
    have hz1 := hb1.size
    have hb := (below_put (Below.refl w.heap.size w) (Nat.le_refl _) _ hb1).trans (hb2.mono (by simp at hz1; omega))
    clear hb1 hb2 hf hz
    go_wp2_with fail
    go_ret
    exact ⟨rfl, hb⟩

theorem far {w : World} {h g i j : Nat} {u v : Value} (hne : h ≠ g) (k : w.cell? ⟨h, i, none⟩ = some v) : (w.setCell ⟨g, j, none⟩ u).cell? ⟨h, i, none⟩ = some v := by
  rw [World.cell?_of_block (heap_setCell_other w ⟨g, j, none⟩ h u hne)]; exact k
theorem far3 {w : World} {h g i : Nat} {u0 u1 u2 v : Value} (hne : h ≠ g) (k : w.cell? ⟨h, i, none⟩ = some v) : (((w.setCell ⟨g, 0, none⟩ u0).setCell ⟨g, 1, none⟩ u1).setCell ⟨g, 2, none⟩ u2).cell? ⟨h, i, none⟩ = some v := far hne (far hne (far hne k))
@[go_sem] theorem isplace (h : Nat) (W : World) : (Instr.typeAssert (.iface 95 (.pointer (some ⟨h, 0, none⟩))) 26 95 true).run Tryd.prog W = .ok (.tuple #[.pointer (some ⟨h, 0, none⟩), .bool true]) W := by kernel_rfl

set_option maxHeartbeats 1600000 in
theorem fault_at (bs : List Addr) (w : World) (hB : Bs w bs) (i h : Nat) (p : Int) (A : Addr) (hi : bs[i]? = some A) (hb : w.heap[h]? = some (.cells #[.int .i64 p, ev A] 97 (0, 0))) :
    Calls Tryd.prog 65 #[atv h] w fun e w' => e = .returned (Ft (101 + i) true p) ∧ Below w.heap.size w w' := by
  have hlt : h < w.heap.size := by
    rcases Nat.lt_or_ge h w.heap.size with h' | h'
    · exact h'
    · rw [Array.getElem?_eq_none h'] at hb; cases hb
  have k0 : w.cell? ⟨h, 0, none⟩ = some (.int .i64 p) := by simp [World.cell?, hb]
  have k1 : w.cell? ⟨h, 1, none⟩ = some (ev A) := by simp [World.cell?, hb]
  have hne : h ≠ w.heap.size := by omega
  unfold atv
  go_enter Tryd.func65, Tryd.ntmps65
  go_upto_region 8 with fail
  have B0 := (Below.refl w.heap.size w).alloc (Nat.le_refl _) (.cells #[.int .i64 0, .bool false, .int .i64 0] 64)
  have k0' := kept B0 k0
  have k1' := kept B0 k1
  have hB' := hB.below B0
  have hT := three (heap_alloc_new w (.cells #[.int .i64 0, .bool false, .int .i64 0] 64))
  have hz : w.heap.size < (w.alloc (.cells #[.int .i64 0, .bool false, .int .i64 0] 64)).heap.size := by simp
  have hA := heap_alloc_new w (.cells #[.int .i64 0, .bool false, .int .i64 0] 64)
  clear B0 hT
  have hBB := (Below.refl w.heap.size w).alloc (Nat.le_refl _) (.cells #[.int .i64 0, .bool false, .int .i64 0] 64)
  generalize w.alloc (.cells #[.int .i64 0, .bool false, .int .i64 0] 64) = W at *
  go_region_held (fun w' => w'.cell? ⟨h, 0, none⟩ = some (.int .i64 p) ∧ w'.cell? ⟨h, 1, none⟩ = some (ev A)) (first | exact ⟨k0', k1'⟩ | exact ⟨far3 hne k0', far3 hne k1'⟩ | go_keep)
    ((first
      | (go_at_call 72; refine (sentinel_w bs _ (hB'.below ((Below.refl _ _).drew)) i A hi).mono ?_; rintro e w1 ⟨rfl, hb1⟩; replace hb1 : Below W.heap.size W w1 := (Below.refl _ _).drew.trans hb1; replace k0' := kept hb1 k0'; replace k1' := kept hb1 k1'; replace hA := (hb1.block _ hz).trans hA; have hz1 := hb1.size)
      | (go_at_call 43; refine (placed_w _ _ _ (by omega)).mono ?_; rintro e w2 ⟨rfl, hb2⟩; replace k0' := kept hb2 k0'; replace k1' := kept hb2 k1'; replace hA := (hb2.block _ (by omega)).trans hA; obtain ⟨c0, c1, c2, f0, f1, f2⟩ := three hA; have hb3 := hb1.trans (hb2.mono hz1))))
  all_goals
    go_wp2_with fail
    refine bodyPost_ret (v := Ft (101 + i) true p) (by simp [results, Tryd.results65, go_sem, c0, c1, c2]) rfl ⟨rfl, ?_⟩
    exact (((hBB.trans (hb3.mono (Nat.le_of_lt hz))).setCell (Nat.le_refl _) _).setCell (Nat.le_refl _) _).setCell (Nat.le_refl _) _
end Go.Proofs.YtdgbgdkfoeoppaaDoor.Wire
