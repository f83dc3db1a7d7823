/- The walks of package dev that write. -/
import Derived.Test.YtagbnacffiagcaaDoorGDevWalk
import Derived.Deep.RegionHeld3
namespace Go.Proofs.YtagbnacffiagcaaDoor.DevG
open Go Go.RowKit Go.Maps Go.Proofs.YtagbnacffiagcaaDoor.Mem Go.Proofs.YtagbnacffiagcaaDoor.MapsW Go.Proofs.YtagbnacffiagcaaDoor.SeeW
set_option linter.unusedVariables false
set_option maxRecDepth 100000

theorem fits_nat {i : Nat} (h : i ≤ 1000000) : Fits (i : Int) := by unfold Fits; omega

theorem mem_own (d : Nat) (m : Mp) : d ∈ own d m ∧ m.f ∈ own d m ∧ m.p ∈ own d m ∧ m.a ∈ own d m ∧ m.i ∈ own d m ∧ m.e ∈ own d m := by simp [own, Mp.list]
theorem At.ne {w : World} {lo d n : Nat} {m : Mp} {D : Dv} (h : At w lo d n m D) : m.f ≠ d ∧ m.p ≠ d ∧ m.a ≠ d ∧ m.i ≠ d ∧ m.e ≠ d := by
  have h1 := h.maps
  have h2 := h.cells
  have : ∀ x ∈ m.list, x ≠ d := by
    intro x hx e
    obtain ⟨es, ck, h3⟩ := h1 x hx
    rw [e, h2] at h3
    cases h3
  exact ⟨this _ (by simp [Mp.list]), this _ (by simp [Mp.list]), this _ (by simp [Mp.list]), this _ (by simp [Mp.list]), this _ (by simp [Mp.list])⟩
theorem At.nd {w : World} {lo d n : Nat} {m : Mp} {D : Dv} (h : At w lo d n m D) : m.f ≠ m.p ∧ m.f ≠ m.a ∧ m.f ≠ m.i ∧ m.f ≠ m.e ∧ m.p ≠ m.a ∧ m.p ≠ m.i ∧ m.p ≠ m.e ∧ m.a ≠ m.i ∧ m.a ≠ m.e ∧ m.i ≠ m.e := by
  have := h.nodup
  simp [Mp.list] at this
  obtain ⟨⟨a, b, c, d⟩, ⟨e, f, g⟩, ⟨h, i⟩, j⟩ := this
  exact ⟨a, b, c, d, e, f, g, h, i, j⟩

/-- a map of it written -/
theorem At.putP {w w' : World} {lo d n np : Nat} {m : Mp} {D : Dv} {F : Int → Option (List Nat)} (h : At w lo d n m D) (hr : RowMap w' 0 m.p (n + 1) F np) (hg : w.grownBy w' (some m.p)) : At w' lo d (n + 1) m { D with pe := F, np := np } := by
  have ht : Turn [m.p] w w' := Turn.of_grown hg (by simp)
  obtain ⟨n1, n2, n3, n4, n5⟩ := h.ne
  obtain ⟨e1, e2, e3, e4, e5, e6, e7, e8, e9, e10⟩ := h.nd
  obtain ⟨k, hk⟩ := h.rf
  have hS : ∀ x ∈ [m.p], x < 0 ∨ NoCells w x ∨ ∃ v, w.cell? ⟨x, 0, none⟩ = some v ∧ ∀ z, v ≠ .int .u8 z := by
    intro x hx
    rw [List.mem_singleton.1 hx]
    exact .inr (.inl (nocells h.rp.block))
  exact ⟨ht.cells h.cells (by simp; omega), ⟨k, (rows_turn hk ht (by simp; exact e1) hS).mono (by omega) (Nat.le_refl _)⟩, hr, (bools_turn h.ba ht (by simp; omega)).mono (by omega), (bools_turn h.bi ht (by simp; omega)).mono (by omega), (sets_turn h.be ht (by simp; omega)).mono (by omega), h.nodup, h.lod, h.lom⟩
theorem At.putF {w w' : World} {lo d n np : Nat} {m : Mp} {D : Dv} {F : Int → Option (List Nat)} (h : At w lo d n m D) (hr : RowMap w' 0 m.f (n + 1) F np) (hg : w.grownBy w' (some m.f)) : At w' lo d (n + 1) m { D with fl := F } := by
  have ht : Turn [m.f] w w' := Turn.of_grown hg (by simp)
  obtain ⟨n1, n2, n3, n4, n5⟩ := h.ne
  obtain ⟨e1, e2, e3, e4, e5, e6, e7, e8, e9, e10⟩ := h.nd
  obtain ⟨k, hk⟩ := h.rf
  have hS : ∀ x ∈ [m.f], x < 0 ∨ NoCells w x ∨ ∃ v, w.cell? ⟨x, 0, none⟩ = some v ∧ ∀ z, v ≠ .int .u8 z := by
    intro x hx
    rw [List.mem_singleton.1 hx]
    exact .inr (.inl (nocells hk.block))
  exact ⟨ht.cells h.cells (by simp; omega), ⟨np, hr⟩, (rows_turn h.rp ht (by simp; omega) hS).mono (by omega) (Nat.le_refl _), (bools_turn h.ba ht (by simp; omega)).mono (by omega), (bools_turn h.bi ht (by simp; omega)).mono (by omega), (sets_turn h.be ht (by simp; omega)).mono (by omega), h.nodup, h.lod, h.lom⟩
theorem At.putA {w w' : World} {lo d n : Nat} {m : Mp} {D : Dv} {F : Int → Bool} (h : At w lo d n m D) (hr : BoolMap w' m.a (n + 1) F) (hg : w.grownBy w' (some m.a)) : At w' lo d (n + 1) m { D with fa := F } := by
  have ht : Turn [m.a] w w' := Turn.of_grown hg (by simp)
  obtain ⟨n1, n2, n3, n4, n5⟩ := h.ne
  obtain ⟨e1, e2, e3, e4, e5, e6, e7, e8, e9, e10⟩ := h.nd
  obtain ⟨k, hk⟩ := h.rf
  have hS : ∀ x ∈ [m.a], x < 0 ∨ NoCells w x ∨ ∃ v, w.cell? ⟨x, 0, none⟩ = some v ∧ ∀ z, v ≠ .int .u8 z := by
    intro x hx
    rw [List.mem_singleton.1 hx]
    exact .inr (.inl (nocells h.ba.block))
  exact ⟨ht.cells h.cells (by simp; omega), ⟨k, (rows_turn hk ht (by simp; omega) hS).mono (by omega) (Nat.le_refl _)⟩, (rows_turn h.rp ht (by simp; omega) hS).mono (by omega) (Nat.le_refl _), hr, (bools_turn h.bi ht (by simp; omega)).mono (by omega), (sets_turn h.be ht (by simp; omega)).mono (by omega), h.nodup, h.lod, h.lom⟩
theorem At.putI {w w' : World} {lo d n : Nat} {m : Mp} {D : Dv} {F : Int → Bool} (h : At w lo d n m D) (hr : BoolMap w' m.i (n + 1) F) (hg : w.grownBy w' (some m.i)) : At w' lo d (n + 1) m { D with fi := F } := by
  have ht : Turn [m.i] w w' := Turn.of_grown hg (by simp)
  obtain ⟨n1, n2, n3, n4, n5⟩ := h.ne
  obtain ⟨e1, e2, e3, e4, e5, e6, e7, e8, e9, e10⟩ := h.nd
  obtain ⟨k, hk⟩ := h.rf
  have hS : ∀ x ∈ [m.i], x < 0 ∨ NoCells w x ∨ ∃ v, w.cell? ⟨x, 0, none⟩ = some v ∧ ∀ z, v ≠ .int .u8 z := by
    intro x hx
    rw [List.mem_singleton.1 hx]
    exact .inr (.inl (nocells h.bi.block))
  exact ⟨ht.cells h.cells (by simp; omega), ⟨k, (rows_turn hk ht (by simp; omega) hS).mono (by omega) (Nat.le_refl _)⟩, (rows_turn h.rp ht (by simp; omega) hS).mono (by omega) (Nat.le_refl _), (bools_turn h.ba ht (by simp; omega)).mono (by omega), hr, (sets_turn h.be ht (by simp; omega)).mono (by omega), h.nodup, h.lod, h.lom⟩
theorem At.putE {w w' : World} {lo d n k : Nat} {m : Mp} {D : Dv} {F : Int → Bool} (h : At w lo d n m D) (hr : SetMap w' m.e (n + 1) F k) (hg : w.grownBy w' (some m.e)) : At w' lo d (n + 1) m { D with ev := F, ne := k } := by
  have ht : Turn [m.e] w w' := Turn.of_grown hg (by simp)
  obtain ⟨n1, n2, n3, n4, n5⟩ := h.ne
  obtain ⟨e1, e2, e3, e4, e5, e6, e7, e8, e9, e10⟩ := h.nd
  obtain ⟨k0, hk⟩ := h.rf
  have hS : ∀ x ∈ [m.e], x < 0 ∨ NoCells w x ∨ ∃ v, w.cell? ⟨x, 0, none⟩ = some v ∧ ∀ z, v ≠ .int .u8 z := by
    intro x hx
    rw [List.mem_singleton.1 hx]
    exact .inr (.inl (nocells h.be.block))
  exact ⟨ht.cells h.cells (by simp; omega), ⟨k0, (rows_turn hk ht (by simp; omega) hS).mono (by omega) (Nat.le_refl _)⟩, (rows_turn h.rp ht (by simp; omega) hS).mono (by omega) (Nat.le_refl _), (bools_turn h.ba ht (by simp; omega)).mono (by omega), (bools_turn h.bi ht (by simp; omega)).mono (by omega), hr, h.nodup, h.lod, h.lom⟩

/-- one more call -/
theorem At.count {w : World} {lo d n : Nat} {m : Mp} {D : Dv} (h : At w lo d n m D) (c : Nat) : At (w.setCell ⟨d, 6, none⟩ (.int .i64 c)) lo d n m { D with calls := c } :=
  h.recell (Turn.setCell w d 6 _ (by simp)) c D.fuse D.down (by have := h.cells; simp [World.setCell, Array.getElem?_modify, this])

/-- what one row is, of an owned slice -/
theorem row_of {w : World} {base : Nat} {v : Value} {l : List Nat} (h : w.ownsRow base 5 1 v 256 (nums .u8 l)) : ∃ g cap, v = .slice (some ⟨g, 0, none⟩) 256 cap ∧ Nums .u8 w (some ⟨g, 0, none⟩) 256 cap l ∧ base ≤ g := by
  obtain ⟨a, cap, rfl, hr⟩ := ownsRow_slice h
  obtain ⟨g, rfl⟩ := own_some h (by decide)
  exact ⟨g, cap, rfl, hr, (h.lt g rfl).1⟩

/-- what a device has behind a write -/
def Dv.put (D : Dv) (i : Int) (l : List Nat) : Dv := { D with pe := upd D.pe i (some l), np := if (D.pe i).isSome then D.np else D.np + 1, calls := D.calls + 1 }
/-- a write of n bytes: what is told, what the device has then -/
def Dv.write (D : Dv) (i : Int) (n : Nat) (l : List Nat) : Option Nat × Dv :=
  if D.tick.down then (some 5, D.tick) else if 0 ≤ i ∧ i < D.blocks then if n = 256 then (none, D.tick.put i l) else (some 1, D.tick) else (some 4, D.tick)

theorem own1 {d : Nat} {m : Mp} {w w' : World} (h : Turn [d] w w') : Turn (own d m) w w' := h.mono fun x hx => by rw [List.mem_singleton.1 hx]; exact (mem_own d m).1
set_option maxHeartbeats 1600000 in
theorem write_ok (d lo n : Nat) (m : Mp) (D : Dv) (i : Nat) (a : Option Addr) (cap : Nat) (l : List Nat) (w : World) (h : At w lo d n m D) (hi : i < D.blocks) (hb : D.blocks ≤ 6000) (hl : Nums .u8 w a 256 cap l) (hn : n < 100000) (hc : D.calls < 1000000) (hz : D.fuse ≤ 1000000) (hdn : D.tick.down = false) :
    Calls Tryd.prog 37 #[ptr d, .int .i64 i, .slice a 256 cap] w fun e w' => e = .returned .nilIface ∧ At w' lo d (n + 1) m (D.tick.put i l) ∧ Turn (own d m) w w' := by
  have hf : Fits (i : Int) := fits_nat (by omega)
  have htb := D.tick_same.1
  have htc := D.tick_same.2.2.2.2.2.2.2.2.1
  have hd : decide (0 ≤ (i : Int) ∧ (i : Int) < D.tick.blocks) = true := by rw [decide_eq_true_eq, htb]; omega
  go_enter Tryd.func37, Tryd.ntmps37
  go_wp2_with fail
  refine (gone_w d lo n m D _ h hz).mono ?_
  rintro e w0 ⟨rfl, h0, t0⟩
  rw [hdn]
  have hl0 := nums_turn hl (own1 (m := m) t0) h.nou8
  clear h hl
  have hdl := h0.dlt
  obtain ⟨c0, c1, c2, c3, c4, c5, c6, c7, c8, f6, f2, f7, f8⟩ := h0.c
  go_wp2_with fail
  refine (is_w d lo n m _ i _ h0 hf).mono ?_
  rintro e w' ⟨rfl, rfl⟩
  rw [hd]
  go_wp2_with fail
  go_region_held3 (fun w' => w'.cell? ⟨d, 2, none⟩ = some (.map (some m.p))) (first | exact c2 | exact x3 | exact x4 | go_keep)
    ((go_at_call 93; refine (RefW.clone_w a 256 cap l _ (Nums.below hl0 (below_drewN (Below.refl _ _) _)) (by decide)).mono ?_; rintro e w3 ⟨v, rfl, own3, hb3⟩; obtain ⟨g, gc, rfl, hg, hgb⟩ := row_of own3; have hgb' : w0.heap.size ≤ g := hgb; have h3 := (At.below h0 (below_drewN (Below.refl _ _) 1)).below hb3; obtain ⟨w4, hrun, hr4, hg4⟩ := RowMap.store h3.rp (by omega) hf hg (show 0 ≤ g by omega); have x3 := h3.c.2.2.1; have h4 := h3.putP hr4 hg4; have x4 := h4.c.2.2.1))
  have hT : Turn (own d m) w w4 := (own1 t0).then (((Turn.of_below (below_drewN (Below.refl _ w0) 1)).then (Turn.of_below hb3)).then (Turn.of_grown hg4 (mem_own d m).2.2.1))
  obtain ⟨z0, z1, z2, z3, z4, z5, z6, z7, z8, z9, z10, z11, z12⟩ := h4.c
  have H4 := hid h4
  clear h4 h3 h0 c0 c1 c2 c3 c4 c5 c6 c7 c8 f6 f2 f7 f8 x3 x4 hr4 hg4 hrun hg hgb hgb' own3 hb3 hl0
  simp only [htc] at z0 z1 z2 z3 z4 z5 z6 z7 z8
  go_wp2
  go_ret
  refine ⟨rfl, ?_, hT.then (Turn.setCell _ _ _ _ (mem_own d m).1)⟩
  have := H4.out.count (D.calls + 1)
  rw [show ((D.calls + 1 : Nat) : Int) = (D.calls : Int) + 1 by omega] at this
  unfold Dv.put
  rw [htc]
  exact this

theorem write_no (bs : List Addr) (d lo n : Nat) (m : Mp) (D : Dv) (i : Int) (a : Option Addr) (len cap : Nat) (w : World) (h : At w lo d n m D) (hB : Ev w lo bs five) (hz : D.fuse ≤ 1000000) (hf : Fits i) (k g : Nat) (hk : k ∈ five) (hg : SeeW.gl[k]? = some g)
    (hw : (D.tick.down = true ∧ k = 5) ∨ (D.tick.down = false ∧ ¬ (0 ≤ i ∧ i < D.blocks) ∧ k = 4) ∨ (D.tick.down = false ∧ (0 ≤ i ∧ i < D.blocks) ∧ len ≠ 256 ∧ k = 1)) :
    Calls Tryd.prog 37 #[ptr d, .int .i64 i, .slice a len cap] w fun e w' => (∃ a, bs[k]? = some a ∧ e = .returned (ev a)) ∧ At w' lo d n m D.tick ∧ Turn [d] w w' := by
  have htb := D.tick_same.1
  obtain ⟨aF, haF, hAF⟩ := hB.get k g hk hg
  rcases hw with ⟨hdn, rfl⟩ | ⟨hdn, hi, rfl⟩ | ⟨hdn, hi, hne, rfl⟩
  · cases hg
    go_enter Tryd.func37, Tryd.ntmps37
    go_wp2_with fail
    refine (gone_w d lo n m D _ h hz).mono ?_
    rintro e w0 ⟨rfl, h0, t0⟩
    rw [hdn]
    have hA1 := ((hB.turn t0 (fun x hx => by rw [List.mem_singleton.1 hx]; exact h.lod)).get 5 _ hk rfl)
    obtain ⟨a', ha', hA1, _⟩ := hA1
    obtain rfl := Option.some.inj (ha'.symm.trans haF)
    go_wp2
    go_ret
    exact ⟨⟨_, haF, rfl⟩, h0, t0⟩
  · cases hg
    have hd : decide (0 ≤ i ∧ i < D.tick.blocks) = false := by rw [decide_eq_false_iff_not, htb]; exact hi
    go_enter Tryd.func37, Tryd.ntmps37
    go_wp2_with fail
    refine (gone_w d lo n m D _ h hz).mono ?_
    rintro e w0 ⟨rfl, h0, t0⟩
    rw [hdn]
    have hA1 := ((hB.turn t0 (fun x hx => by rw [List.mem_singleton.1 hx]; exact h.lod)).get 4 _ hk rfl)
    obtain ⟨a', ha', hA1, _⟩ := hA1
    obtain rfl := Option.some.inj (ha'.symm.trans haF)
    go_wp2_with fail
    refine (is_w d lo n m _ i _ h0 hf).mono ?_
    rintro e w' ⟨rfl, rfl⟩
    rw [hd]
    clear hi
    go_wp2
    go_ret
    exact ⟨⟨_, haF, rfl⟩, h0, t0⟩
  · cases hg
    have hd : decide (0 ≤ i ∧ i < D.tick.blocks) = true := by rw [decide_eq_true_eq, htb]; exact hi
    have hx : ((len : Int) != 256) = true := by rw [bne_iff_ne]; omega
    go_enter Tryd.func37, Tryd.ntmps37
    go_wp2_with fail
    refine (gone_w d lo n m D _ h hz).mono ?_
    rintro e w0 ⟨rfl, h0, t0⟩
    rw [hdn]
    have hA1 := ((hB.turn t0 (fun x hx => by rw [List.mem_singleton.1 hx]; exact h.lod)).get 1 _ hk rfl)
    obtain ⟨a', ha', hA1, _⟩ := hA1
    obtain rfl := Option.some.inj (ha'.symm.trans haF)
    go_wp2_with fail
    refine (is_w d lo n m _ i _ h0 hf).mono ?_
    rintro e w' ⟨rfl, rfl⟩
    rw [hd]
    clear hi
    go_wp2
    go_ret
    exact ⟨⟨_, haF, rfl⟩, h0, t0⟩

/-- any write -/
theorem write_w (bs : List Addr) (d lo n : Nat) (m : Mp) (D : Dv) (i : Int) (a : Option Addr) (len cap : Nat) (l : List Nat) (w : World) (h : At w lo d n m D) (hB : Ev w lo bs five) (hf : Fits i) (hb : D.blocks ≤ 6000) (hl : Nums .u8 w a len cap l) (hn : n < 100000) (hc : D.calls < 1000000) (hz : D.fuse ≤ 1000000) :
    Calls Tryd.prog 37 #[ptr d, .int .i64 i, .slice a len cap] w fun e w' => (∃ v, Says bs (D.write i len l).1 v ∧ e = .returned v) ∧ At w' lo d (n + 1) m (D.write i len l).2 ∧ Turn (own d m) w w' := by
  have no : ∀ k g, k ∈ five → SeeW.gl[k]? = some g → ((D.tick.down = true ∧ k = 5) ∨ (D.tick.down = false ∧ ¬ (0 ≤ i ∧ i < D.blocks) ∧ k = 4) ∨ (D.tick.down = false ∧ (0 ≤ i ∧ i < D.blocks) ∧ len ≠ 256 ∧ k = 1)) →
      Calls Tryd.prog 37 #[ptr d, .int .i64 i, .slice a len cap] w fun e w' => (∃ v, Says bs (some k) v ∧ e = .returned v) ∧ At w' lo d (n + 1) m D.tick ∧ Turn (own d m) w w' := by
    intro k g hk hg hw
    refine (write_no bs d lo n m D i a len cap w h hB hz hf k g hk hg hw).mono ?_
    rintro e w' ⟨⟨aa, h1, rfl⟩, h2, h3⟩
    exact ⟨⟨_, ⟨aa, h1, rfl⟩, rfl⟩, h2.mono (by omega) (Nat.le_refl _), own1 h3⟩
  unfold Dv.write
  by_cases h1 : D.tick.down = true
  · rw [if_pos h1]
    exact no 5 _ (by decide) rfl (.inl ⟨h1, rfl⟩)
  · have h1' : D.tick.down = false := by simpa using h1
    rw [if_neg h1]
    by_cases h2 : 0 ≤ i ∧ i < D.blocks
    · rw [if_pos h2]
      by_cases h3 : len = 256
      · subst h3
        rw [if_pos rfl]
        obtain ⟨j, rfl⟩ := Int.eq_ofNat_of_zero_le h2.1
        refine (write_ok d lo n m D j a cap l w h (by omega) hb hl hn hc hz h1').mono ?_
        rintro e w' ⟨rfl, h4, h5⟩
        exact ⟨⟨_, rfl, rfl⟩, h4, h5⟩
      · rw [if_neg h3]
        exact no 1 _ (by decide) rfl (.inr (.inr ⟨h1', h2, h3, rfl⟩))
    · rw [if_neg h2]
      exact no 4 _ (by decide) rfl (.inr (.inl ⟨h1', h2, rfl⟩))

/-- what a device has behind a fault -/
def Dv.fault (D : Dv) (i : Int) : Dv := { D with fa := upd D.fa i true, ev := upd D.ev i true, ne := if D.ev i then D.ne else D.ne + 1 }
set_option maxHeartbeats 800000 in
theorem fault_w (d lo n : Nat) (m : Mp) (D : Dv) (i : Int) (w : World) (h : At w lo d n m D) (hf : Fits i) (hn : n < 100000) :
    Calls Tryd.prog 80 #[ptr d, .int .i64 i] w fun e w' => e = .returned (.tuple #[]) ∧ At w' lo d (n + 2) m (D.fault i) ∧ Turn (own d m) w w' := by
  obtain ⟨c0, c1, c2, c3, c4, c5, c6, c7, c8, f6, f2, f7, f8⟩ := h.c
  go_enter Tryd.func80, Tryd.ntmps80
  go_wp2_with (first
    | (at_mapUpdate; refine wpList_putBool _ rfl _ _ _ rfl h.ba (by omega) hf true rfl rfl rfl ?_; intro w1 hr1 hg1; have h1 := h.putA hr1 hg1; obtain ⟨z0, z1, z2, z3, z4, z5, z6, z7, z8, z9, z10, z11, z12⟩ := h1.c)
    | (at_mapUpdate; refine wpList_putSet _ rfl _ _ _ rfl h1.be (by omega) hf rfl rfl rfl ?_; intro w2 hr2 hg2))
  refine bodyPost_end (v := .tuple #[]) (by simp [results, Tryd.results80, go_sem]) rfl ?_
  exact ⟨rfl, h1.putE hr2 hg2, (Turn.of_grown hg1 (mem_own d m).2.2.2.1).then (Turn.of_grown hg2 (mem_own d m).2.2.2.2.2)⟩

/-- what a device has when a block is laid down for good -/
def Dv.lay (D : Dv) (i : Int) (l : List Nat) : Dv := { D with fl := upd D.fl i (some l), fa := upd D.fa i false, fi := upd D.fi i false }
theorem At.delA {w w' : World} {lo d n : Nat} {m : Mp} {D : Dv} {F : Int → Bool} (h : At w lo d n m D) (hr : BoolMap w' m.a n F) (hg : w.grownBy w' (some m.a)) : At w' lo d (n + 1) m { D with fa := F } := h.putA (hr.mono (by omega)) hg
theorem At.delI {w w' : World} {lo d n : Nat} {m : Mp} {D : Dv} {F : Int → Bool} (h : At w lo d n m D) (hr : BoolMap w' m.i n F) (hg : w.grownBy w' (some m.i)) : At w' lo d (n + 1) m { D with fi := F } := h.putI (hr.mono (by omega)) hg
set_option maxHeartbeats 1600000 in
theorem lay_w (d lo n : Nat) (m : Mp) (D : Dv) (i : Int) (g cap : Nat) (l : List Nat) (w : World) (h : At w lo d n m D) (hf : Fits i) (hl : Nums .u8 w (some ⟨g, 0, none⟩) 256 cap l) (hg : 0 ≤ g) (hn : n < 100000) :
    Calls Tryd.prog 76 #[ptr d, .int .i64 i, .slice (some ⟨g, 0, none⟩) 256 cap] w fun e w' => e = .returned (.tuple #[]) ∧ At w' lo d (n + 3) m (D.lay i l) ∧ Turn [m.f, m.a, m.i] w w' := by
  obtain ⟨c0, c1, c2, c3, c4, c5, c6, c7, c8, f6, f2, f7, f8⟩ := h.c
  obtain ⟨k, hk⟩ := h.rf
  go_enter Tryd.func76, Tryd.ntmps76
  go_wp2_with (first
    | (at_mapUpdate; refine wpList_putRow _ rfl _ _ _ rfl hk (by omega) hf hl (by omega) rfl rfl rfl ?_; intro w1 hr1 hg1; have h1 := h.putF hr1 hg1; obtain ⟨z0, z1, z2, z3, z4, z5, z6, z7, z8, z9, z10, z11, z12⟩ := h1.c)
    | (at_delete; refine wpList_delBool _ rfl _ _ rfl h1.ba hf rfl rfl ?_; intro w2 hr2 hg2; have h2 := h1.delA hr2 hg2; obtain ⟨y0, y1, y2, y3, y4, y5, y6, y7, y8, y9, y10, y11, y12⟩ := h2.c)
    | (at_delete; refine wpList_delBool _ rfl _ _ rfl h2.bi hf rfl rfl ?_; intro w3 hr3 hg3))
  refine bodyPost_end (v := .tuple #[]) (by simp [results, Tryd.results76, go_sem]) rfl ?_
  exact ⟨rfl, h2.delI hr3 hg3, ((Turn.of_grown hg1 (by simp)).then (Turn.of_grown hg2 (by simp))).then (Turn.of_grown hg3 (by simp))⟩

/-- a block may be faulted -/
def Dv.may (D : Dv) (i : Int) : Bool := decide (0 ≤ i ∧ i < D.blocks) && (!(D.pe i).isSome && !D.fa i)
set_option maxHeartbeats 800000 in
theorem may_w (d lo n : Nat) (m : Mp) (D : Dv) (i : Int) (w : World) (h : At w lo d n m D) (hf : Fits i) :
    Calls Tryd.prog 77 #[ptr d, .int .i64 i] w fun e w' => e = .returned (.bool (D.may i)) ∧ w = w' := by
  obtain ⟨c0, c1, c2, c3, c4, c5, c6, c7, c8, f6, f2, f7, f8⟩ := h.c
  have hla := h.ba.look hf
  unfold Dv.may
  cases hd : decide (0 ≤ i ∧ i < D.blocks)
  · go_enter Tryd.func77, Tryd.ntmps77
    go_wp2_with fail
    refine (is_w d lo n m D i _ h hf).mono ?_
    rintro e w' ⟨rfl, rfl⟩
    rw [hd]
    go_wp2
    go_ret
    exact ⟨rfl, rfl⟩
  · cases hF : D.pe i with
    | none =>
      have hl := h.rp.look_none hf hF
      cases hb2 : D.fa i
      all_goals
        rw [hb2] at hla
        go_enter Tryd.func77, Tryd.ntmps77
        go_wp2_with fail
        refine (is_w d lo n m D i _ h hf).mono ?_
        rintro e w' ⟨rfl, rfl⟩
        rw [hd]
        go_wp2
        go_ret
        exact ⟨ret_bool (by simp), rfl⟩
    | some l =>
      obtain ⟨g, cap, hl, _, _⟩ := h.rp.look_some hf hF
      go_enter Tryd.func77, Tryd.ntmps77
      go_wp2_with fail
      refine (is_w d lo n m D i _ h hf).mono ?_
      rintro e w' ⟨rfl, rfl⟩
      rw [hd]
      go_wp2
      go_ret
      exact ⟨ret_bool (by simp), rfl⟩
end Go.Proofs.YtagbnacffiagcaaDoor.DevG
