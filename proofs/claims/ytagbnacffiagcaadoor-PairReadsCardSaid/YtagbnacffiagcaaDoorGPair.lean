/- Pairs of blocks (package pair). -/
import Derived.Test.YtagbnacffiagcaaDoorGDevNew
namespace Go.Proofs.YtagbnacffiagcaaDoor.PairG
open Go Go.RowKit Go.Maps Go.Proofs.YtagbnacffiagcaaDoor.Mem Go.Proofs.YtagbnacffiagcaaDoor.MapsW Go.Proofs.YtagbnacffiagcaaDoor.SeeW Go.Proofs.YtagbnacffiagcaaDoor.DevG
set_option linter.unusedVariables false
set_option maxRecDepth 100000

/-- a write of a device that is up, and not armed -/
theorem write_q (d lo n : Nat) (m : Mp) (D : Dv) (i : Nat) (a : Option Addr) (cap : Nat) (l : List Nat) (w : World) (h : At w lo d n m D) (hi : i < D.blocks) (hb : D.blocks ≤ 6000) (hl : Nums .u8 w a 256 cap l) (hn : n < 100000) (hc : D.calls < 1000000) (hu : D.down = false) (hz : D.fuse = 0) :
    Calls Tryd.prog 37 #[ptr d, .int .i64 i, .slice a 256 cap] w fun e w' => e = .returned .nilIface ∧ At w' lo d (n + 1) m (D.put i l) ∧ Turn (own d m) w w' := by
  have := write_ok d lo n m D i a cap l w h hi hb hl hn hc (by omega) (by rw [Dv.tick_zero hz]; exact hu)
  rw [Dv.tick_zero hz] at this
  exact this
abbrev pcells (d b h c : Nat) : Array Value := #[ptr d, .int .i64 b, .int .i64 h, .int .i64 c]
/-- block p of w holds pairs on the device d: b blocks, half of them h; c were mended -/
structure PAt (w : World) (lo d n : Nat) (m : Mp) (D : Dv) (p h c : Nat) : Prop where
  dev : At w lo d n m D
  cells : w.heap[p]? = some (.cells (pcells d D.blocks h c) 118)
  half : 2 * h ≤ D.blocks
  most : D.blocks ≤ 6000
  lop : lo ≤ p
  up : D.down = false
  still : D.fuse = 0
theorem PAt.ne {w : World} {lo d n : Nat} {m : Mp} {D : Dv} {p h c : Nat} (k : PAt w lo d n m D p h c) : p ≠ d := by
  rintro rfl
  have h1 := k.cells
  rw [k.dev.cells] at h1
  have h2 := (Obj.cells.inj (Option.some.inj h1)).1
  have h3 := congrArg (·[0]?) h2
  simp at h3
theorem PAt.c {w : World} {lo d n : Nat} {m : Mp} {D : Dv} {p h c : Nat} (k : PAt w lo d n m D p h c) :
    w.cell? ⟨p, 0, none⟩ = some (ptr d) ∧ w.cell? ⟨p, 1, none⟩ = some (.int .i64 D.blocks) ∧ w.cell? ⟨p, 2, none⟩ = some (.int .i64 h) ∧ w.cell? ⟨p, 3, none⟩ = some (.int .i64 c) ∧ w.frozen? ⟨p, 3, none⟩ = false := by
  have := k.cells
  simp [World.cell?, World.frozen?, this]
/-- what the device does leaves the pairs -/
theorem PAt.turn {w w' : World} {lo d n n' : Nat} {m m' : Mp} {D D' : Dv} {p h c : Nat} (k : PAt w lo d n m D p h c) (hd : At w' lo d n' m' D') (ht : Turn (own d m) w w') (hb : D'.blocks = D.blocks) (hu : D'.down = false) (hz : D'.fuse = 0) : PAt w' lo d n' m' D' p h c := by
  refine ⟨hd, ?_, by rw [hb]; exact k.half, by rw [hb]; exact k.most, k.lop, hu, hz⟩
  rw [hb]
  exact ht.cells k.cells (k.dev.out k.cells k.ne)
theorem PAt.below {w w' : World} {lo d n : Nat} {m : Mp} {D : Dv} {p h c : Nat} (k : PAt w lo d n m D p h c) (hb : Below w.heap.size w w') : PAt w' lo d n m D p h c :=
  k.turn (k.dev.below hb) (Turn.of_below hb) rfl k.up k.still
theorem PAt.mono {w : World} {lo lo' d n n' : Nat} {m : Mp} {D : Dv} {p h c : Nat} (k : PAt w lo d n m D p h c) (hn : n ≤ n') (hl : lo' ≤ lo) : PAt w lo' d n' m D p h c :=
  ⟨k.dev.mono hn hl, k.cells, k.half, k.most, Nat.le_trans hl k.lop, k.up, k.still⟩
/-- one more was mended -/
theorem PAt.tick {w : World} {lo d n : Nat} {m : Mp} {D : Dv} {p h c : Nat} (k : PAt w lo d n m D p h c) (c' : Nat) : PAt (w.setCell ⟨p, 3, none⟩ (.int .i64 c')) lo d n m D p h c' ∧ Turn [p] w (w.setCell ⟨p, 3, none⟩ (.int .i64 c')) := by
  have ht : Turn [p] w (w.setCell ⟨p, 3, none⟩ (.int .i64 c')) := Turn.setCell w p 3 _ (by simp)
  have hout := k.dev.out k.cells k.ne
  refine ⟨⟨k.dev.turn ht (by simp; exact fun e => k.ne e.symm) (fun x hx => by
    simp
    rintro rfl
    exact hout (List.mem_cons_of_mem _ hx)) (fun x hx => ?_), ?_, k.half, k.most, k.lop, k.up, k.still⟩, ht⟩
  · rw [List.mem_singleton.1 hx]
    exact .inr ⟨_, k.c.1, fun z e => by cases e⟩
  · have := k.cells
    simp [World.setCell, Array.getElem?_modify, this]

theorem is_w (lo d n : Nat) (m : Mp) (D : Dv) (p h c : Nat) (i : Int) (w : World) (k : PAt w lo d n m D p h c) (hi : Fits i) :
    Calls Tryd.prog 72 #[ptr p, .int .i64 i] w fun e w' => e = .returned (.bool (decide (0 ≤ i ∧ i < h))) ∧ w = w' := by
  obtain ⟨c0, c1, c2, c3, f3⟩ := k.c
  clear k
  by_cases h0 : 0 ≤ i
  · by_cases h1 : i < h
    · go_enter Tryd.func72, Tryd.ntmps72
      go_wp2
      go_ret
      exact ⟨ret_bool (by simp [h0, h1]), rfl⟩
    · have h2 : decide (i < (h : Int)) = false := decide_eq_false h1
      go_enter Tryd.func72, Tryd.ntmps72
      go_wp2
      go_ret
      exact ⟨ret_bool (by simp), rfl⟩
  · have h2 : decide ((0 : Int) ≤ i) = false := decide_eq_false h0
    go_enter Tryd.func72, Tryd.ntmps72
    go_wp2
    go_ret
    exact ⟨ret_bool (by simp), rfl⟩
theorem mended_w (lo d n : Nat) (m : Mp) (D : Dv) (p h c : Nat) (w : World) (k : PAt w lo d n m D p h c) :
    Calls Tryd.prog 70 #[ptr p] w fun e w' => e = .returned (.int .i64 c) ∧ w = w' := by
  obtain ⟨c0, c1, c2, c3, f3⟩ := k.c
  go_enter Tryd.func70, Tryd.ntmps70
  go_wp2
  go_ret
  exact ⟨rfl, rfl⟩

set_option maxHeartbeats 800000 in
/-- a block written anew -/
theorem mend_w (lo d n : Nat) (m : Mp) (D : Dv) (p h c : Nat) (i : Nat) (a : Option Addr) (cap : Nat) (l : List Nat) (w : World) (k : PAt w lo d n m D p h c) (hi : i < D.blocks) (hl : Nums .u8 w a 256 cap l) (hn : n < 100000) (hc : D.calls < 1000000) (hc2 : c < 1000000) :
    Calls Tryd.prog 82 #[ptr p, .int .i64 i, .slice a 256 cap] w fun e w' => e = .returned .nilIface ∧ PAt w' lo d (n + 1) m (D.put i l) p h (c + 1) ∧ Turn (p :: own d m) w w' := by
  obtain ⟨c0, c1, c2, c3, f3⟩ := k.c
  go_enter Tryd.func82, Tryd.ntmps82
  go_wp2_with fail
  refine (write_q d lo n m D i a cap l _ k.dev hi k.most hl hn hc k.up k.still).mono ?_
  rintro e w1 ⟨rfl, h1, t1⟩
  have k1 := k.turn h1 t1 rfl k.up k.still
  obtain ⟨x0, x1, x2, x3, g3⟩ := k1.c
  obtain ⟨k2, t2⟩ := k1.tick (c + 1)
  rw [show ((c + 1 : Nat) : Int) = (c : Int) + 1 by omega] at k2 t2
  have K2 := hid k2
  clear k k1 k2 c0 c1 c2 c3 f3 h1
  go_wp2
  go_ret
  exact ⟨rfl, K2.out, (t1.mono (fun x hx => List.mem_cons_of_mem _ hx)).then (t2.mono (fun x hx => by rw [List.mem_singleton.1 hx]; exact List.mem_cons_self ..))⟩
end Go.Proofs.YtagbnacffiagcaaDoor.PairG
