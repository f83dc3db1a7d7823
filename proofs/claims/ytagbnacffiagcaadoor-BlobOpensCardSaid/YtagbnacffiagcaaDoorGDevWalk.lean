/- The walks of package dev that only ask. -/
import Derived.Test.YtagbnacffiagcaaDoorGDev
namespace Go.Proofs.YtagbnacffiagcaaDoor.DevG
open Go Go.RowKit Go.Maps Go.Proofs.YtagbnacffiagcaaDoor.Mem Go.Proofs.YtagbnacffiagcaaDoor.MapsW Go.Proofs.YtagbnacffiagcaaDoor.SeeW
set_option linter.unusedVariables false
set_option maxRecDepth 100000

abbrev ptr (d : Nat) : Value := .pointer (some ⟨d, 0, none⟩)
theorem At.c {w : World} {lo d n : Nat} {m : Mp} {D : Dv} (h : At w lo d n m D) :
    w.cell? ⟨d, 0, none⟩ = some (.int .i64 D.blocks) ∧ w.cell? ⟨d, 1, none⟩ = some (.map (some m.f)) ∧ w.cell? ⟨d, 2, none⟩ = some (.map (some m.p)) ∧ w.cell? ⟨d, 3, none⟩ = some (.map (some m.a)) ∧
    w.cell? ⟨d, 4, none⟩ = some (.map (some m.i)) ∧ w.cell? ⟨d, 5, none⟩ = some (.map (some m.e)) ∧ w.cell? ⟨d, 6, none⟩ = some (.int .i64 D.calls) ∧ w.cell? ⟨d, 7, none⟩ = some (.int .i64 D.fuse) ∧ w.cell? ⟨d, 8, none⟩ = some (.bool D.down) ∧
    w.frozen? ⟨d, 6, none⟩ = false ∧ w.frozen? ⟨d, 2, none⟩ = false ∧ w.frozen? ⟨d, 7, none⟩ = false ∧ w.frozen? ⟨d, 8, none⟩ = false := by
  have := h.cells
  simp [World.cell?, World.frozen?, this]

theorem blocks_w (d lo n : Nat) (m : Mp) (D : Dv) (w : World) (h : At w lo d n m D) :
    Calls Tryd.prog 55 #[ptr d] w fun e w' => e = .returned (.int .i64 D.blocks) ∧ w = w' := by
  obtain ⟨c0, c1, c2, c3, c4, c5, c6, c7, c8, f6, f2, f7, f8⟩ := h.c
  go_enter Tryd.func55, Tryd.ntmps55
  go_wp2
  go_ret
  exact ⟨rfl, rfl⟩

theorem is_w (d lo n : Nat) (m : Mp) (D : Dv) (i : Int) (w : World) (h : At w lo d n m D) (hi : Fits i) :
    Calls Tryd.prog 92 #[ptr d, .int .i64 i] w fun e w' => e = .returned (.bool (decide (0 ≤ i ∧ i < D.blocks))) ∧ w = w' := by
  obtain ⟨c0, c1, c2, c3, c4, c5, c6, c7, c8, f6, f2, f7, f8⟩ := h.c
  clear h
  by_cases h0 : 0 ≤ i
  · by_cases h1 : i < D.blocks
    · go_enter Tryd.func92, Tryd.ntmps92
      go_wp2
      go_ret
      exact ⟨ret_bool (by simp [h0, h1]), rfl⟩
    · have h2 : decide (i < (D.blocks : Int)) = false := decide_eq_false h1
      go_enter Tryd.func92, Tryd.ntmps92
      go_wp2
      go_ret
      exact ⟨ret_bool (by simp), rfl⟩
  · have h2 : decide ((0 : Int) ≤ i) = false := decide_eq_false h0
    go_enter Tryd.func92, Tryd.ntmps92
    go_wp2
    go_ret
    exact ⟨ret_bool (by simp), rfl⟩

/-- the cells of a device written -/
theorem At.recell {w w' : World} {lo d n : Nat} {m : Mp} {D : Dv} (h : At w lo d n m D) (ht : Turn [d] w w') (c f : Nat) (b : Bool)
    (hc : w'.heap[d]? = some (.cells (cellsOf m { D with calls := c, fuse := f, down := b }) 123)) : At w' lo d n m { D with calls := c, fuse := f, down := b } := by
  have hne : ∀ x ∈ m.list, x ∉ [d] := by
    intro x hx hm
    rw [List.mem_singleton] at hm
    subst hm
    obtain ⟨es, ck, h3⟩ := h.maps x hx
    rw [h.cells] at h3
    cases h3
  obtain ⟨k, hk⟩ := h.rf
  have hS : ∀ x ∈ [d], x < 0 ∨ NoCells w x ∨ ∃ v, w.cell? ⟨x, 0, none⟩ = some v ∧ ∀ z, v ≠ .int .u8 z := by
    intro x hx
    rw [List.mem_singleton.1 hx]
    exact .inr (.inr ⟨_, h.c.1, fun z e => by cases e⟩)
  have mm : m.f ∈ m.list ∧ m.p ∈ m.list ∧ m.a ∈ m.list ∧ m.i ∈ m.list ∧ m.e ∈ m.list := by simp [Mp.list]
  obtain ⟨m1, m2, m3, m4, m5⟩ := mm
  exact ⟨hc, ⟨k, rows_turn hk ht (hne _ m1) hS⟩, rows_turn h.rp ht (hne _ m2) hS, bools_turn h.ba ht (hne _ m3), bools_turn h.bi ht (hne _ m4), sets_turn h.be ht (hne _ m5), h.nodup, h.lod, h.lom⟩
theorem At.setFuse {w : World} {lo d n : Nat} {m : Mp} {D : Dv} (h : At w lo d n m D) (f : Nat) : At (w.setCell ⟨d, 7, none⟩ (.int .i64 f)) lo d n m { D with fuse := f } :=
  h.recell (Turn.setCell w d 7 _ (by simp)) D.calls f D.down (by have := h.cells; simp [World.setCell, Array.getElem?_modify, this])
theorem At.setDown {w : World} {lo d n : Nat} {m : Mp} {D : Dv} (h : At w lo d n m D) (b : Bool) : At (w.setCell ⟨d, 8, none⟩ (.bool b)) lo d n m { D with down := b } :=
  h.recell (Turn.setCell w d 8 _ (by simp)) D.calls D.fuse b (by have := h.cells; simp [World.setCell, Array.getElem?_modify, this])
/-- a call that changes something: the fuse burns down -/
def Dv.tick (D : Dv) : Dv := if !D.down && decide (0 < D.fuse) then { D with fuse := D.fuse - 1, down := decide (D.fuse = 1) } else D
theorem Dv.tick_down {D : Dv} (h : D.down = true) : D.tick = D := by unfold Dv.tick; rw [h]; rfl
theorem Dv.tick_zero {D : Dv} (h : D.fuse = 0) : D.tick = D := by
  unfold Dv.tick; rw [h]; simp
theorem Dv.tick_some {D : Dv} (h : D.down = false) (h2 : 0 < D.fuse) : D.tick = { D with fuse := D.fuse - 1, down := decide (D.fuse = 1) } := by
  unfold Dv.tick; rw [h, decide_eq_true h2]; rfl
theorem Dv.tick_same (D : Dv) : D.tick.blocks = D.blocks ∧ D.tick.fl = D.fl ∧ D.tick.pe = D.pe ∧ D.tick.fa = D.fa ∧ D.tick.fi = D.fi ∧ D.tick.ev = D.ev ∧ D.tick.np = D.np ∧ D.tick.ne = D.ne ∧ D.tick.calls = D.calls ∧ D.tick.fuse ≤ D.fuse := by
  unfold Dv.tick
  split
  · exact ⟨rfl, rfl, rfl, rfl, rfl, rfl, rfl, rfl, rfl, Nat.sub_le ..⟩
  · exact ⟨rfl, rfl, rfl, rfl, rfl, rfl, rfl, rfl, rfl, Nat.le_refl _⟩
theorem gone_w (d lo n : Nat) (m : Mp) (D : Dv) (w : World) (h : At w lo d n m D) (hz : D.fuse ≤ 1000000) :
    Calls Tryd.prog 75 #[ptr d] w fun e w' => e = .returned (.bool D.tick.down) ∧ At w' lo d n m D.tick ∧ Turn [d] w w' := by
  obtain ⟨c0, c1, c2, c3, c4, c5, c6, c7, c8, f6, f2, f7, f8⟩ := h.c
  cases hd : D.down
  · rw [hd] at c8
    by_cases hf : 0 < D.fuse
    · have h1 := h.setFuse (D.fuse - 1)
      have h2 := h1.setDown (decide (D.fuse = 1))
      have e1 : (((D.fuse - 1 : Nat) : Int)) = (D.fuse : Int) - 1 := by omega
      rw [Dv.tick_some hd hf]
      rw [e1] at h1 h2
      have t1 : Turn [d] w (w.setCell ⟨d, 7, none⟩ (.int .i64 ((D.fuse : Int) - 1))) := Turn.setCell w d 7 _ (by simp)
      by_cases h1f : D.fuse = 1
      · have e2 : decide (D.fuse = 1) = true := decide_eq_true h1f
        have e3 : decide ((D.fuse : Int) - 1 = 0) = true := decide_eq_true (by omega)
        have e4 : ((D.fuse : Int) - 1 == 0) = true := by rw [beq_iff_eq]; omega
        rw [e2] at h2 ⊢
        obtain ⟨z0, z1, z2, z3, z4, z5, z6, z7, z8, g6, g2, g7, g8⟩ := h1.c
        obtain ⟨y0, y1, y2, y3, y4, y5, y6, y7, y8, k6, k2, k7, k8⟩ := h2.c
        simp only [e1] at z7 y7
        simp only at y8
        have H2 := hid h2
        clear h1 h2 e1 e2 h1f
        go_enter Tryd.func75, Tryd.ntmps75
        go_wp2
        go_ret
        exact ⟨rfl, H2.out, t1.then (Turn.setCell _ d 8 _ (by simp))⟩
      · have e2 : decide (D.fuse = 1) = false := decide_eq_false h1f
        have e3 : decide ((D.fuse : Int) - 1 = 0) = false := decide_eq_false (by omega)
        have e4 : ((D.fuse : Int) - 1 == 0) = false := by rw [beq_eq_false_iff_ne]; omega
        rw [e2] at h2 ⊢
        obtain ⟨z0, z1, z2, z3, z4, z5, z6, z7, z8, g6, g2, g7, g8⟩ := h1.c
        obtain ⟨y0, y1, y2, y3, y4, y5, y6, y7, y8, k6, k2, k7, k8⟩ := h2.c
        simp only [e1] at z7 y7
        simp only at y8
        have H2 := hid h2
        clear h1 h2 e1 e2 h1f
        go_enter Tryd.func75, Tryd.ntmps75
        go_wp2
        go_ret
        exact ⟨rfl, H2.out, t1.then (Turn.setCell _ d 8 _ (by simp))⟩
    · have h0 : D.fuse = 0 := by omega
      rw [Dv.tick_zero h0, hd]
      rw [h0] at c7
      go_enter Tryd.func75, Tryd.ntmps75
      go_wp2
      go_ret
      exact ⟨rfl, h, Turn.refl _ _⟩
  · rw [hd] at c8
    rw [Dv.tick_down hd, hd]
    go_enter Tryd.func75, Tryd.ntmps75
    go_wp2
    go_ret
    exact ⟨rfl, h, Turn.refl _ _⟩

theorem pending_w (d lo n : Nat) (m : Mp) (D : Dv) (w : World) (h : At w lo d n m D) :
    Calls Tryd.prog 52 #[ptr d] w fun e w' => e = .returned (.int .i64 D.np) ∧ w = w' := by
  obtain ⟨c0, c1, c2, c3, c4, c5, c6, c7, c8, f6, f2, f7, f8⟩ := h.c
  obtain ⟨E, hE, hnp, _⟩ := h.rp
  have hl := hE.len Tryd.underlying120 3
  rw [hnp] at hl
  clear h hE hnp
  go_enter Tryd.func52, Tryd.ntmps52
  go_wp2
  go_ret
  exact ⟨rfl, rfl⟩

theorem faulted_w (d lo n : Nat) (m : Mp) (D : Dv) (i : Int) (w : World) (h : At w lo d n m D) (hi : Fits i) :
    Calls Tryd.prog 50 #[ptr d, .int .i64 i] w fun e w' => e = .returned (.bool (D.fa i)) ∧ w = w' := by
  obtain ⟨c0, c1, c2, c3, c4, c5, c6, c7, c8, f6, f2, f7, f8⟩ := h.c
  have hl := h.ba.look hi
  clear h
  go_enter Tryd.func50, Tryd.ntmps50
  go_wp2
  go_ret
  exact ⟨rfl, rfl⟩

/-- what lies there for good -/
def keptOf (D : Dv) (i : Int) : List Nat := (D.fl i).getD (List.replicate 256 0)
set_option maxHeartbeats 800000 in
theorem kept_w (d lo n : Nat) (m : Mp) (D : Dv) (i : Int) (w : World) (h : At w lo d n m D) (hi : Fits i) :
    Calls Tryd.prog 79 #[ptr d, .int .i64 i] w fun e w' => ∃ g cap, e = .returned (.slice (some ⟨g, 0, none⟩) 256 cap) ∧ Nums .u8 w' (some ⟨g, 0, none⟩) 256 cap (keptOf D i) ∧ 0 ≤ g ∧ Below w.heap.size w w' := by
  obtain ⟨c0, c1, c2, c3, c4, c5, c6, c7, c8, f6, f2, f7, f8⟩ := h.c
  obtain ⟨k, hk⟩ := h.rf
  have hd := h.dlt
  cases hF : D.fl i with
  | none =>
    have hl := hk.look_none hi hF
    have e : keptOf D i = List.replicate 256 0 := by unfold keptOf; rw [hF]; rfl
    rw [e]
    clear h hk hF e
    go_enter Tryd.func79, Tryd.ntmps79
    go_wp2_with (at_make; go_must (refine wpList_mkn RefW.elU8 rfl _ _ rfl w.heap.size _ _ _ _ 256 rfl rfl rfl rfl (by decide) (by decide) (Nat.le_refl _) ?_); intro w1 hown1 hg1)
    go_ret
    rw [RefW.made_nums] at hown1
    exact ⟨_, _, rfl, OwnN.nums hown1, Nat.zero_le _, below_growns hg1 (Nat.le_refl _)⟩
  | some l =>
    obtain ⟨g, cap, hl, hn, hg⟩ := hk.look_some hi hF
    have e : keptOf D i = l := by unfold keptOf; rw [hF]; rfl
    rw [e]
    clear h hk hF e
    go_enter Tryd.func79, Tryd.ntmps79
    go_wp2
    go_ret
    exact ⟨_, _, rfl, hn, by omega, Below.refl _ _⟩
end Go.Proofs.YtagbnacffiagcaaDoor.DevG
