/- A device in memory (package dev), whatever it is: armed, down; The walks of package dev that only ask; The walks of package dev that write; The walks of package dev: faults, reading; The document's device (breviaryref1.Dev) in memory; The keys of a map of rows, rising: slices.Sorted of maps.Keys; The walk of package dev's Flush, and of New; A slice of integers. -/
import Derived.Test.YtagbnacffiagcaaDoorDevPlaysP1
import Derived.Deep.DeepMust
import Derived.BigQuiet
import Derived.Deep.RegionHeld3
import Derived.Test.YtagbnacffiagcaaDoorShelf
import Derived.Test.YtagbnacffiagcaaDoorProg
namespace Go.Proofs.YtagbnacffiagcaaDoor.DevG
open Go Go.RowKit Go.Maps Go.Proofs.YtagbnacffiagcaaDoor.Mem Go.Proofs.YtagbnacffiagcaaDoor.MapsW
set_option linter.unusedVariables false
set_option maxRecDepth 100000

/-- what a call says of an error: none, or the k-th of the list -/
def Says (bs : List Addr) (r : Option Nat) (v : Value) : Prop := match r with
  | none => v = .nilIface
  | some k => ∃ a, bs[k]? = some a ∧ v = SeeW.ev a
/-- what is written alone: the blocks S -/
structure Turn (S : List Nat) (w w' : World) : Prop where
  os : w'.os = w.os
  tape : w'.tape = w.tape
  output : w'.output = w.output
  size : w.heap.size ≤ w'.heap.size
  block : ∀ k, k < w.heap.size → k ∉ S → w'.heap[k]? = w.heap[k]?
theorem Turn.refl (S : List Nat) (w : World) : Turn S w w := ⟨rfl, rfl, rfl, Nat.le_refl _, fun _ _ _ => rfl⟩
theorem Turn.trans {S S' : List Nat} {a b c : World} (h : Turn S a b) (k : Turn S' b c) (hS : ∀ x ∈ S', x ∈ S ∨ a.heap.size ≤ x) : Turn S a c :=
  ⟨k.os.trans h.os, k.tape.trans h.tape, k.output.trans h.output, Nat.le_trans h.size k.size, fun i hi hn =>
    (k.block i (Nat.lt_of_lt_of_le hi h.size) (fun hm => (hS i hm).elim hn (by omega))).trans (h.block i hi hn)⟩
theorem Turn.then {S : List Nat} {a b c : World} (h : Turn S a b) (k : Turn S b c) : Turn S a c := h.trans k fun x hx => .inl hx
theorem Turn.mono {S S' : List Nat} {a b : World} (h : Turn S a b) (hS : ∀ x ∈ S, x ∈ S') : Turn S' a b :=
  ⟨h.os, h.tape, h.output, h.size, fun k hk hn => h.block k hk fun hm => hn (hS k hm)⟩
theorem Turn.of_below {S : List Nat} {a b : World} (h : Below a.heap.size a b) : Turn S a b := ⟨h.os, h.tape, h.output, h.size, fun k hk _ => h.block k hk⟩
theorem Turn.of_grown {S : List Nat} {a b : World} {x : Nat} (h : a.grownBy b (some x)) (hx : x ∈ S) : Turn S a b :=
  ⟨h.os, h.tape, h.output, h.size, fun k hk hn => h.block k hk fun e => hn (Option.some.inj e ▸ hx)⟩
theorem Turn.below {S : List Nat} {a b : World} {lo : Nat} (h : Turn S a b) (hlo : lo ≤ a.heap.size) (hS : ∀ x ∈ S, lo ≤ x) : Below lo a b :=
  ⟨h.os, h.tape, h.output, h.size, fun k hk => h.block k (by omega) fun hm => by have := hS k hm; omega⟩
theorem Turn.setCell {S : List Nat} (w : World) (d j : Nat) (v : Value) (hd : d ∈ S) : Turn S w (w.setCell ⟨d, j, none⟩ v) :=
  ⟨rfl, rfl, rfl, by simp, fun k _ hn => heap_setCell_other w ⟨d, j, none⟩ k v fun e => hn (by rw [e]; exact hd)⟩
theorem Turn.cells {S : List Nat} {a b : World} (h : Turn S a b) {k : Nat} {o : Obj} (hk : a.heap[k]? = some o) (hn : k ∉ S) : b.heap[k]? = some o :=
  (h.block k (Array.getElem?_eq_some_iff.1 hk).1 hn).trans hk

/-- the errors I of api stand at bs, below lo, no two the same -/
structure Ev (w : World) (lo : Nat) (bs : List Addr) (I : List Nat) : Prop where
  at_ : ∀ i ∈ I, ∀ g, SeeW.gl[i]? = some g → ∃ a, bs[i]? = some a ∧ Err.At w g a ∧ g < lo ∧ a.block < lo
  inj : ∀ i ∈ I, ∀ j ∈ I, bs[i]? = bs[j]? → i = j
/-- a device's errors -/
abbrev five : List Nat := [1, 2, 4, 5, 6]
theorem Ev.sub {w : World} {lo : Nat} {bs : List Addr} {I I' : List Nat} (h : Ev w lo bs I) (hI : ∀ i ∈ I', i ∈ I) : Ev w lo bs I' :=
  ⟨fun i hi => h.at_ i (hI i hi), fun i hi j hj => h.inj i (hI i hi) j (hI j hj)⟩
theorem Ev.mono {w : World} {lo lo' : Nat} {bs : List Addr} {I : List Nat} (h : Ev w lo bs I) (hl : lo ≤ lo') : Ev w lo' bs I :=
  ⟨fun i hi g hg => let ⟨a, h1, h2, h3, h4⟩ := h.at_ i hi g hg; ⟨a, h1, h2, by omega, by omega⟩, h.inj⟩
theorem Ev.turn {S : List Nat} {w w' : World} {lo : Nat} {bs : List Addr} {I : List Nat} (h : Ev w lo bs I) (ht : Turn S w w') (hS : ∀ x ∈ S, lo ≤ x) : Ev w' lo bs I := by
  refine ⟨fun i hi g hg => ?_, h.inj⟩
  obtain ⟨a, h1, ⟨h2, c, t, h3⟩, h4, h5⟩ := h.at_ i hi g hg
  refine ⟨a, h1, ⟨?_, c, t, ?_⟩, h4, h5⟩
  · have hlt := World.block_lt_of_cell? w ⟨g, 0, none⟩ h2
    rw [World.cell?_of_block (w := w) (ht.block g hlt fun hm => by have := hS g hm; omega)]
    exact h2
  · rw [ht.block _ (Array.getElem?_eq_some_iff.1 h3).1 fun hm => by have := hS _ hm; omega]
    exact h3
theorem Ev.below {w w' : World} {lo : Nat} {bs : List Addr} {I : List Nat} (h : Ev w lo bs I) (hb : Below w.heap.size w w') : Ev w' lo bs I :=
  h.turn (S := []) (Turn.of_below hb) (by simp)
theorem Ev.get {w : World} {lo : Nat} {bs : List Addr} {I : List Nat} (h : Ev w lo bs I) (i g : Nat) (hi : i ∈ I) (hg : SeeW.gl[i]? = some g) : ∃ a, bs[i]? = some a ∧ Err.At w g a :=
  let ⟨a, h1, h2, _, _⟩ := h.at_ i hi g hg; ⟨a, h1, h2⟩
theorem Ev.of_all {w : World} {gs : List Nat} (hE : Err.All w gs) (I : List Nat) (hI : I.map (fun i => SeeW.gl[i]?) = gs.map some) (hn : I.Nodup) : ∃ bs, Ev w w.heap.size bs I := by
  obtain ⟨cs, h1, h2, h3⟩ := hE
  have hlen := congrArg List.length hI
  simp only [List.length_map] at hlen
  have hlt : ∀ i ∈ I, i < SeeW.gl.length := by
    intro i hi
    have := List.mem_map_of_mem (f := fun i => SeeW.gl[i]?) hi
    rw [hI] at this
    obtain ⟨g, _, hg⟩ := List.mem_map.1 this
    exact (List.getElem?_eq_some_iff.1 hg.symm).1
  have hidx : ∀ i ∈ I, I.idxOf i < cs.length := fun i hi => by have := List.idxOf_lt_length_of_mem hi; omega
  have hget : ∀ i ∈ I, ((List.range SeeW.gl.length).map fun i => (cs[I.idxOf i]?).getD ⟨0, 0, none⟩)[i]? = cs[I.idxOf i]? := by
    intro i hi
    rw [List.getElem?_map, List.getElem?_range (hlt i hi)]
    simp [List.getElem?_eq_getElem (hidx i hi)]
  refine ⟨(List.range SeeW.gl.length).map fun i => (cs[I.idxOf i]?).getD ⟨0, 0, none⟩, fun i hi g hg => ?_, fun i hi j hj e => ?_⟩
  · have hk : I[I.idxOf i]? = some i := by rw [List.getElem?_eq_getElem (List.idxOf_lt_length_of_mem hi), List.getElem_idxOf]
    have e := congrArg (fun z => z[I.idxOf i]?) hI
    simp only [List.getElem?_map, hk, Option.map_some] at e
    have hgs : gs[I.idxOf i]? = some g := by
      cases hx : gs[I.idxOf i]? with
      | none => rw [hx] at e; cases e
      | some y =>
        rw [hx] at e
        simp only [Option.map_some, Option.some.injEq] at e
        rw [hg] at e
        exact e.symm
    obtain ⟨a, ha, hA⟩ := h3 _ _ hgs
    exact ⟨a, (hget i hi).trans ha, hA, World.block_lt_of_cell? w ⟨g, 0, none⟩ hA.1, hA.lt⟩
  · rw [hget i hi, hget j hj] at e
    have h5 := (List.getElem?_inj (hidx i hi) h2).1 e
    have a := List.getElem_idxOf (List.idxOf_lt_length_of_mem hi)
    have b := List.getElem_idxOf (List.idxOf_lt_length_of_mem hj)
    rw [← a, ← b]
    simp only [h5]
/-- a device's maps -/
structure Mp where
  f : Nat
  p : Nat
  a : Nat
  i : Nat
  e : Nat
def Mp.list (m : Mp) : List Nat := [m.f, m.p, m.a, m.i, m.e]
/-- what a device holds -/
structure Dv where
  blocks : Nat
  fl : Int → Option (List Nat)
  pe : Int → Option (List Nat)
  fa : Int → Bool
  fi : Int → Bool
  ev : Int → Bool
  np : Nat
  ne : Nat
  calls : Nat
  fuse : Nat := 0
  down : Bool := false
abbrev cellsOf (m : Mp) (D : Dv) : Array Value := #[.int .i64 D.blocks, .map (some m.f), .map (some m.p), .map (some m.a), .map (some m.i), .map (some m.e), .int .i64 D.calls, .int .i64 D.fuse, .bool D.down]
/-- block d of w is a device: its blocks lie from lo on, its rows behind d; no map has more than n entries -/
structure At (w : World) (lo d n : Nat) (m : Mp) (D : Dv) : Prop where
  cells : w.heap[d]? = some (.cells (cellsOf m D) 123)
  rf : ∃ k, RowMap w 0 m.f n D.fl k
  rp : RowMap w 0 m.p n D.pe D.np
  ba : BoolMap w m.a n D.fa
  bi : BoolMap w m.i n D.fi
  be : SetMap w m.e n D.ev D.ne
  nodup : m.list.Nodup
  lod : lo ≤ d
  lom : ∀ x ∈ m.list, lo ≤ x
/-- the device's own blocks -/
abbrev own (d : Nat) (m : Mp) : List Nat := d :: m.list
theorem At.own_lo {w : World} {lo d n : Nat} {m : Mp} {D : Dv} (h : At w lo d n m D) : ∀ x ∈ own d m, lo ≤ x := by
  intro x hx
  rcases List.mem_cons.1 hx with rfl | hx
  · exact h.lod
  · exact h.lom x hx
/-- its maps are maps -/
theorem At.maps {w : World} {lo d n : Nat} {m : Mp} {D : Dv} (h : At w lo d n m D) : ∀ x ∈ m.list, ∃ es ck, w.heap[x]? = some (.map es ck) := by
  intro x hx
  simp only [Mp.list, List.mem_cons, List.not_mem_nil, or_false] at hx
  rcases hx with rfl | rfl | rfl | rfl | rfl
  · obtain ⟨k, hk⟩ := h.rf; exact hk.block
  · exact h.rp.block
  · exact h.ba.block
  · exact h.bi.block
  · exact h.be.block
theorem At.dlt {w : World} {lo d n : Nat} {m : Mp} {D : Dv} (h : At w lo d n m D) : d < w.heap.size := (Array.getElem?_eq_some_iff.1 h.cells).1
/-- a block of cells is none of its maps -/
theorem At.out {w : World} {lo d n : Nat} {m : Mp} {D : Dv} (h : At w lo d n m D) {k : Nat} {c : Array Value} {t : TypeId} {f : Nat × Nat} (hk : w.heap[k]? = some (.cells c t f)) (hd : k ≠ d) : k ∉ own d m := by
  intro hm
  rcases List.mem_cons.1 hm with e | hm
  · exact hd e
  · obtain ⟨es, ck, h1⟩ := h.maps k hm
    rw [hk] at h1
    cases h1
theorem At.mono {w : World} {lo lo' d n n' : Nat} {m : Mp} {D : Dv} (h : At w lo d n m D) (hn : n ≤ n') (hl : lo' ≤ lo) : At w lo' d n' m D := by
  obtain ⟨k, hk⟩ := h.rf
  exact ⟨h.cells, ⟨k, hk.mono hn (Nat.le_refl _)⟩, h.rp.mono hn (Nat.le_refl _), h.ba.mono hn, h.bi.mono hn, h.be.mono hn, h.nodup, Nat.le_trans hl h.lod, fun x hx => Nat.le_trans hl (h.lom x hx)⟩
/-- a block that is no row of cells -/
def NoCells (w : World) (x : Nat) : Prop := ∀ c t f, w.heap[x]? ≠ some (.cells c t f)
theorem nocells {w : World} {x : Nat} (h : ∃ es ck, w.heap[x]? = some (.map es ck)) : NoCells w x := by
  obtain ⟨es, ck, h⟩ := h
  intro c t f e
  rw [h] at e
  cases e
theorem rows_turn {S : List Nat} {w w' : World} {base b n np : Nat} {F : Int → Option (List Nat)} (h : RowMap w base b n F np) (ht : Turn S w w') (hb : b ∉ S)
    (hS : ∀ x ∈ S, x < base ∨ NoCells w x ∨ ∃ v, w.cell? ⟨x, 0, none⟩ = some v ∧ ∀ z, v ≠ .int .u8 z) : RowMap w' base b n F np := by
  obtain ⟨es0, ck0, hb0⟩ := h.block
  obtain ⟨D, h1, h2, h3⟩ := h
  refine ⟨D, ownsMap_of h1 (ht.block b (Array.getElem?_eq_some_iff.1 hb0).1 hb), h2, fun i => ?_⟩
  have := h3 i
  cases hF : F i with
  | none => rw [hF] at this; exact this
  | some l =>
    rw [hF] at this
    obtain ⟨a, g, cap, b1, b2, b3⟩ := this
    obtain ⟨c, t, f, hc⟩ := nums_cells b2 (by decide)
    refine ⟨a, g, cap, b1, nums_of_cells b2 (ht.block g (Array.getElem?_eq_some_iff.1 hc).1 fun hm => ?_), b3⟩
    rcases hS g hm with h | h | ⟨v, hv, hz⟩
    · omega
    · exact h _ _ _ hc
    · obtain ⟨b', o', he, hc'⟩ := b2.at (j := 0) (by rw [b2.len]; decide)
      cases he
      rw [Nat.zero_add] at hc'
      rw [hc'] at hv
      exact hz _ (Option.some.inj hv).symm
theorem bools_turn {S : List Nat} {w w' : World} {b n : Nat} {F : Int → Bool} (h : BoolMap w b n F) (ht : Turn S w w') (hb : b ∉ S) : BoolMap w' b n F := by
  obtain ⟨es0, ck0, hb0⟩ := h.block
  exact h.still (ht.block b (Array.getElem?_eq_some_iff.1 hb0).1 hb)
theorem sets_turn {S : List Nat} {w w' : World} {b n k : Nat} {F : Int → Bool} (h : SetMap w b n F k) (ht : Turn S w w') (hb : b ∉ S) : SetMap w' b n F k := by
  obtain ⟨es0, ck0, hb0⟩ := h.block
  exact h.still (ht.block b (Array.getElem?_eq_some_iff.1 hb0).1 hb)
/-- what writes elsewhere leaves it -/
theorem At.turn {S : List Nat} {w w' : World} {lo d n : Nat} {m : Mp} {D : Dv} (h : At w lo d n m D) (ht : Turn S w w') (hd : d ∉ S) (hm : ∀ x ∈ m.list, x ∉ S)
    (hS : ∀ x ∈ S, NoCells w x ∨ ∃ v, w.cell? ⟨x, 0, none⟩ = some v ∧ ∀ z, v ≠ .int .u8 z) : At w' lo d n m D := by
  have hm1 : ∀ x, x ∈ m.list → x ∉ S := hm
  obtain ⟨k, hk⟩ := h.rf
  have mm : m.f ∈ m.list ∧ m.p ∈ m.list ∧ m.a ∈ m.list ∧ m.i ∈ m.list ∧ m.e ∈ m.list := by simp [Mp.list]
  obtain ⟨m1, m2, m3, m4, m5⟩ := mm
  exact ⟨ht.cells h.cells hd, ⟨k, rows_turn hk ht (hm _ m1) fun x hx => .inr (hS x hx)⟩, rows_turn h.rp ht (hm _ m2) fun x hx => .inr (hS x hx), bools_turn h.ba ht (hm _ m3), bools_turn h.bi ht (hm _ m4), sets_turn h.be ht (hm _ m5), h.nodup, h.lod, h.lom⟩
theorem At.below {w w' : World} {lo d n : Nat} {m : Mp} {D : Dv} (h : At w lo d n m D) (hb : Below w.heap.size w w') : At w' lo d n m D :=
  h.turn (S := []) (Turn.of_below hb) (by simp) (by simp) (by simp)
theorem nums_turn {S : List Nat} {w w' : World} {a : Option Addr} {n cap : Nat} {l : List Nat} (h : Nums .u8 w a n cap l) (ht : Turn S w w') (hS : ∀ x ∈ S, ∀ off z, w.cell? ⟨x, off, none⟩ ≠ some (.int .u8 z)) : Nums .u8 w' a n cap l := by
  obtain ⟨h1, h2, h3, h4, h5⟩ := h
  refine ⟨h1, h2, h3, h4, fun j u hj => ?_⟩
  obtain ⟨b, o, rfl, hc⟩ := h5 j u hj
  refine ⟨b, o, rfl, ?_⟩
  obtain ⟨z, rfl⟩ : ∃ z, u = .int .u8 z := by
    obtain ⟨y, _, rfl⟩ := List.mem_map.1 (List.mem_of_getElem? hj)
    exact ⟨_, rfl⟩
  rw [World.cell?_of_block (w := w) (ht.block b (World.block_lt_of_cell? _ _ hc) fun hm => hS b hm _ _ hc)]
  exact hc
theorem nou8_cells {w : World} {x : Nat} {c : Array Value} {t : TypeId} (h : w.heap[x]? = some (.cells c t)) (hc : ∀ v ∈ c.toList, ∀ z, v ≠ .int .u8 z) (off : Nat) (z : Int) : w.cell? ⟨x, off, none⟩ ≠ some (.int .u8 z) := by
  intro e
  simp [World.cell?, h] at e
  exact hc _ (Array.mem_toList_iff.2 (Array.mem_of_getElem? e)) z rfl
theorem At.nou8 {w : World} {lo d n : Nat} {m : Mp} {D : Dv} (h : At w lo d n m D) : ∀ x ∈ own d m, ∀ off z, w.cell? ⟨x, off, none⟩ ≠ some (.int .u8 z) := by
  intro x hx off z
  rcases List.mem_cons.1 hx with rfl | hx
  · refine nou8_cells h.cells ?_ off z
    intro v hv z e
    subst e
    simp at hv
  · obtain ⟨es, ck, hb⟩ := h.maps x hx
    intro e
    simp [World.cell?, hb] at e
/-- a row is none of the device's blocks -/
theorem At.nerow {w : World} {lo d n : Nat} {m : Mp} {D : Dv} (h : At w lo d n m D) {g cap : Nat} {l : List Nat} (hl : Nums .u8 w (some ⟨g, 0, none⟩) 256 cap l) : g ≠ d := by
  rintro rfl
  obtain ⟨b', o', he, hc'⟩ := hl.at (j := 0) (by rw [hl.len]; decide)
  cases he
  rw [Nat.zero_add] at hc'
  exact h.nou8 g List.mem_cons_self 0 _ hc'
end Go.Proofs.YtagbnacffiagcaaDoor.DevG

namespace Go.Proofs.YtagbnacffiagcaaDoor.DevG
open Go Go.RowKit Go.Maps Go.Proofs.YtagbnacffiagcaaDoor.Mem Go.Proofs.YtagbnacffiagcaaDoor.MapsW Go.Proofs.YtagbnacffiagcaaDoor.SeeW
set_option linter.unusedVariables false
set_option maxRecDepth 100000

abbrev ptr (d : Nat) : Value := .pointer (some ⟨d, 0, none⟩)
theorem At.c {w : World} {lo d n : Nat} {m : Mp} {D : Dv} (h : At w lo d n m D) :
    w.cell? ⟨d, 0, none⟩ = some (.int .i64 D.blocks) ∧ w.cell? ⟨d, 1, none⟩ = some (.map (some m.f)) ∧ w.cell? ⟨d, 2, none⟩ = some (.map (some m.p)) ∧ w.cell? ⟨d, 3, none⟩ = some (.map (some m.a)) ∧
    w.cell? ⟨d, 4, none⟩ = some (.map (some m.i)) ∧ w.cell? ⟨d, 5, none⟩ = some (.map (some m.e)) ∧ w.cell? ⟨d, 6, none⟩ = some (.int .i64 D.calls) ∧ w.cell? ⟨d, 7, none⟩ = some (.int .i64 D.fuse) ∧ w.cell? ⟨d, 8, none⟩ = some (.bool D.down) ∧
    w.frozen? ⟨d, 6, none⟩ = false ∧ w.frozen? ⟨d, 2, none⟩ = false ∧ w.frozen? ⟨d, 7, none⟩ = false ∧ w.frozen? ⟨d, 8, none⟩ = false := by
  have := h.cells
  simp [World.cell?, World.frozen?, this]

theorem blocks_w (d lo n : Nat) (m : Mp) (D : Dv) (w : World) (h : At w lo d n m D) :
    Calls Tryd.prog 55 #[ptr d] w fun e w' => e = .returned (.int .i64 D.blocks) ∧ w = w' := by
  obtain ⟨c0, c1, c2, c3, c4, c5, c6, c7, c8, f6, f2, f7, f8⟩ := h.c
  go_enter Tryd.func55, Tryd.ntmps55
  go_wp2
  go_ret
  exact ⟨rfl, rfl⟩

theorem is_w (d lo n : Nat) (m : Mp) (D : Dv) (i : Int) (w : World) (h : At w lo d n m D) (hi : Fits i) :
    Calls Tryd.prog 92 #[ptr d, .int .i64 i] w fun e w' => e = .returned (.bool (decide (0 ≤ i ∧ i < D.blocks))) ∧ w = w' := by
  obtain ⟨c0, c1, c2, c3, c4, c5, c6, c7, c8, f6, f2, f7, f8⟩ := h.c
  clear h
  by_cases h0 : 0 ≤ i
  · by_cases h1 : i < D.blocks
    · go_enter Tryd.func92, Tryd.ntmps92
      go_wp2
      go_ret
      exact ⟨ret_bool (by simp [h0, h1]), rfl⟩
    · have h2 : decide (i < (D.blocks : Int)) = false := decide_eq_false h1
      go_enter Tryd.func92, Tryd.ntmps92
      go_wp2
      go_ret
      exact ⟨ret_bool (by simp), rfl⟩
  · have h2 : decide ((0 : Int) ≤ i) = false := decide_eq_false h0
    go_enter Tryd.func92, Tryd.ntmps92
    go_wp2
    go_ret
    exact ⟨ret_bool (by simp), rfl⟩

/-- the cells of a device written -/
theorem At.recell {w w' : World} {lo d n : Nat} {m : Mp} {D : Dv} (h : At w lo d n m D) (ht : Turn [d] w w') (c f : Nat) (b : Bool)
    (hc : w'.heap[d]? = some (.cells (cellsOf m { D with calls := c, fuse := f, down := b }) 123)) : At w' lo d n m { D with calls := c, fuse := f, down := b } := by
  have hne : ∀ x ∈ m.list, x ∉ [d] := by
    intro x hx hm
    rw [List.mem_singleton] at hm
    subst hm
    obtain ⟨es, ck, h3⟩ := h.maps x hx
    rw [h.cells] at h3
    cases h3
  obtain ⟨k, hk⟩ := h.rf
  have hS : ∀ x ∈ [d], x < 0 ∨ NoCells w x ∨ ∃ v, w.cell? ⟨x, 0, none⟩ = some v ∧ ∀ z, v ≠ .int .u8 z := by
    intro x hx
    rw [List.mem_singleton.1 hx]
    exact .inr (.inr ⟨_, h.c.1, fun z e => by cases e⟩)
  have mm : m.f ∈ m.list ∧ m.p ∈ m.list ∧ m.a ∈ m.list ∧ m.i ∈ m.list ∧ m.e ∈ m.list := by simp [Mp.list]
  obtain ⟨m1, m2, m3, m4, m5⟩ := mm
  exact ⟨hc, ⟨k, rows_turn hk ht (hne _ m1) hS⟩, rows_turn h.rp ht (hne _ m2) hS, bools_turn h.ba ht (hne _ m3), bools_turn h.bi ht (hne _ m4), sets_turn h.be ht (hne _ m5), h.nodup, h.lod, h.lom⟩
theorem At.setFuse {w : World} {lo d n : Nat} {m : Mp} {D : Dv} (h : At w lo d n m D) (f : Nat) : At (w.setCell ⟨d, 7, none⟩ (.int .i64 f)) lo d n m { D with fuse := f } :=
  h.recell (Turn.setCell w d 7 _ (by simp)) D.calls f D.down (by have := h.cells; simp [World.setCell, Array.getElem?_modify, this])
theorem At.setDown {w : World} {lo d n : Nat} {m : Mp} {D : Dv} (h : At w lo d n m D) (b : Bool) : At (w.setCell ⟨d, 8, none⟩ (.bool b)) lo d n m { D with down := b } :=
  h.recell (Turn.setCell w d 8 _ (by simp)) D.calls D.fuse b (by have := h.cells; simp [World.setCell, Array.getElem?_modify, this])
/-- a call that changes something: the fuse burns down -/
def Dv.tick (D : Dv) : Dv := if !D.down && decide (0 < D.fuse) then { D with fuse := D.fuse - 1, down := decide (D.fuse = 1) } else D
theorem Dv.tick_down {D : Dv} (h : D.down = true) : D.tick = D := by unfold Dv.tick; rw [h]; rfl
theorem Dv.tick_zero {D : Dv} (h : D.fuse = 0) : D.tick = D := by
  unfold Dv.tick; rw [h]; simp
theorem Dv.tick_some {D : Dv} (h : D.down = false) (h2 : 0 < D.fuse) : D.tick = { D with fuse := D.fuse - 1, down := decide (D.fuse = 1) } := by
  unfold Dv.tick; rw [h, decide_eq_true h2]; rfl
theorem Dv.tick_same (D : Dv) : D.tick.blocks = D.blocks ∧ D.tick.fl = D.fl ∧ D.tick.pe = D.pe ∧ D.tick.fa = D.fa ∧ D.tick.fi = D.fi ∧ D.tick.ev = D.ev ∧ D.tick.np = D.np ∧ D.tick.ne = D.ne ∧ D.tick.calls = D.calls ∧ D.tick.fuse ≤ D.fuse := by
  unfold Dv.tick
  split
  · exact ⟨rfl, rfl, rfl, rfl, rfl, rfl, rfl, rfl, rfl, Nat.sub_le ..⟩
  · exact ⟨rfl, rfl, rfl, rfl, rfl, rfl, rfl, rfl, rfl, Nat.le_refl _⟩
theorem gone_w (d lo n : Nat) (m : Mp) (D : Dv) (w : World) (h : At w lo d n m D) (hz : D.fuse ≤ 9223372036854775807) :
    Calls Tryd.prog 75 #[ptr d] w fun e w' => e = .returned (.bool D.tick.down) ∧ At w' lo d n m D.tick ∧ Turn [d] w w' := by
  obtain ⟨c0, c1, c2, c3, c4, c5, c6, c7, c8, f6, f2, f7, f8⟩ := h.c
  cases hd : D.down
  · rw [hd] at c8
    by_cases hf : 0 < D.fuse
    · have h1 := h.setFuse (D.fuse - 1)
      have h2 := h1.setDown (decide (D.fuse = 1))
      have e1 : (((D.fuse - 1 : Nat) : Int)) = (D.fuse : Int) - 1 := by omega
      rw [Dv.tick_some hd hf]
      rw [e1] at h1 h2
      have t1 : Turn [d] w (w.setCell ⟨d, 7, none⟩ (.int .i64 ((D.fuse : Int) - 1))) := Turn.setCell w d 7 _ (by simp)
      by_cases h1f : D.fuse = 1
      · have e2 : decide (D.fuse = 1) = true := decide_eq_true h1f
        have e3 : decide ((D.fuse : Int) - 1 = 0) = true := decide_eq_true (by omega)
        have e4 : ((D.fuse : Int) - 1 == 0) = true := by rw [beq_iff_eq]; omega
        rw [e2] at h2 ⊢
        obtain ⟨z0, z1, z2, z3, z4, z5, z6, z7, z8, g6, g2, g7, g8⟩ := h1.c
        obtain ⟨y0, y1, y2, y3, y4, y5, y6, y7, y8, k6, k2, k7, k8⟩ := h2.c
        simp only [e1] at z7 y7
        simp only at y8
        have H2 := hid h2
        clear h1 h2 e1 e2 h1f
        go_enter Tryd.func75, Tryd.ntmps75
        go_wp2
        go_ret
        exact ⟨rfl, H2.out, t1.then (Turn.setCell _ d 8 _ (by simp))⟩
      · have e2 : decide (D.fuse = 1) = false := decide_eq_false h1f
        have e3 : decide ((D.fuse : Int) - 1 = 0) = false := decide_eq_false (by omega)
        have e4 : ((D.fuse : Int) - 1 == 0) = false := by rw [beq_eq_false_iff_ne]; omega
        rw [e2] at h2 ⊢
        obtain ⟨z0, z1, z2, z3, z4, z5, z6, z7, z8, g6, g2, g7, g8⟩ := h1.c
        obtain ⟨y0, y1, y2, y3, y4, y5, y6, y7, y8, k6, k2, k7, k8⟩ := h2.c
        simp only [e1] at z7 y7
        simp only at y8
        have H2 := hid h2
        clear h1 h2 e1 e2 h1f
        go_enter Tryd.func75, Tryd.ntmps75
        go_wp2
        go_ret
        exact ⟨rfl, H2.out, t1.then (Turn.setCell _ d 8 _ (by simp))⟩
    · have h0 : D.fuse = 0 := by omega
      rw [Dv.tick_zero h0, hd]
      rw [h0] at c7
      go_enter Tryd.func75, Tryd.ntmps75
      go_wp2
      go_ret
      exact ⟨rfl, h, Turn.refl _ _⟩
  · rw [hd] at c8
    rw [Dv.tick_down hd, hd]
    go_enter Tryd.func75, Tryd.ntmps75
    go_wp2
    go_ret
    exact ⟨rfl, h, Turn.refl _ _⟩

theorem pending_w (d lo n : Nat) (m : Mp) (D : Dv) (w : World) (h : At w lo d n m D) :
    Calls Tryd.prog 52 #[ptr d] w fun e w' => e = .returned (.int .i64 D.np) ∧ w = w' := by
  obtain ⟨c0, c1, c2, c3, c4, c5, c6, c7, c8, f6, f2, f7, f8⟩ := h.c
  obtain ⟨E, hE, hnp, _⟩ := h.rp
  have hl := hE.len Tryd.underlying120 3
  rw [hnp] at hl
  clear h hE hnp
  go_enter Tryd.func52, Tryd.ntmps52
  go_wp2
  go_ret
  exact ⟨rfl, rfl⟩

theorem faulted_w (d lo n : Nat) (m : Mp) (D : Dv) (i : Int) (w : World) (h : At w lo d n m D) (hi : Fits i) :
    Calls Tryd.prog 50 #[ptr d, .int .i64 i] w fun e w' => e = .returned (.bool (D.fa i)) ∧ w = w' := by
  obtain ⟨c0, c1, c2, c3, c4, c5, c6, c7, c8, f6, f2, f7, f8⟩ := h.c
  have hl := h.ba.look hi
  clear h
  go_enter Tryd.func50, Tryd.ntmps50
  go_wp2
  go_ret
  exact ⟨rfl, rfl⟩

/-- what lies there for good -/
def keptOf (D : Dv) (i : Int) : List Nat := (D.fl i).getD (List.replicate 256 0)
set_option maxHeartbeats 800000 in
theorem kept_w (d lo n : Nat) (m : Mp) (D : Dv) (i : Int) (w : World) (h : At w lo d n m D) (hi : Fits i) :
    Calls Tryd.prog 79 #[ptr d, .int .i64 i] w fun e w' => ∃ g cap, e = .returned (.slice (some ⟨g, 0, none⟩) 256 cap) ∧ Nums .u8 w' (some ⟨g, 0, none⟩) 256 cap (keptOf D i) ∧ 0 ≤ g ∧ Below w.heap.size w w' := by
  obtain ⟨c0, c1, c2, c3, c4, c5, c6, c7, c8, f6, f2, f7, f8⟩ := h.c
  obtain ⟨k, hk⟩ := h.rf
  have hd := h.dlt
  cases hF : D.fl i with
  | none =>
    have hl := hk.look_none hi hF
    have e : keptOf D i = List.replicate 256 0 := by unfold keptOf; rw [hF]; rfl
    rw [e]
    clear h hk hF e
    go_enter Tryd.func79, Tryd.ntmps79
    go_wp2_with (at_make; go_must (refine wpList_mkn RefW.elU8 rfl _ _ rfl w.heap.size _ _ _ _ 256 rfl rfl rfl rfl (by decide) (by decide) (Nat.le_refl _) ?_); intro w1 hown1 hg1)
    go_ret
    rw [RefW.made_nums] at hown1
    exact ⟨_, _, rfl, OwnN.nums hown1, Nat.zero_le _, below_growns hg1 (Nat.le_refl _)⟩
  | some l =>
    obtain ⟨g, cap, hl, hn, hg⟩ := hk.look_some hi hF
    have e : keptOf D i = l := by unfold keptOf; rw [hF]; rfl
    rw [e]
    clear h hk hF e
    go_enter Tryd.func79, Tryd.ntmps79
    go_wp2
    go_ret
    exact ⟨_, _, rfl, hn, by omega, Below.refl _ _⟩
end Go.Proofs.YtagbnacffiagcaaDoor.DevG

namespace Go.Proofs.YtagbnacffiagcaaDoor.DevG
open Go Go.RowKit Go.Maps Go.Proofs.YtagbnacffiagcaaDoor.Mem Go.Proofs.YtagbnacffiagcaaDoor.MapsW Go.Proofs.YtagbnacffiagcaaDoor.SeeW
set_option linter.unusedVariables false
set_option maxRecDepth 100000

theorem fits_nat {i : Nat} (h : i ≤ 1000000) : Fits (i : Int) := by unfold Fits; omega

theorem mem_own (d : Nat) (m : Mp) : d ∈ own d m ∧ m.f ∈ own d m ∧ m.p ∈ own d m ∧ m.a ∈ own d m ∧ m.i ∈ own d m ∧ m.e ∈ own d m := by simp [own, Mp.list]
theorem At.ne {w : World} {lo d n : Nat} {m : Mp} {D : Dv} (h : At w lo d n m D) : m.f ≠ d ∧ m.p ≠ d ∧ m.a ≠ d ∧ m.i ≠ d ∧ m.e ≠ d := by
  have h1 := h.maps
  have h2 := h.cells
  have : ∀ x ∈ m.list, x ≠ d := by
    intro x hx e
    obtain ⟨es, ck, h3⟩ := h1 x hx
    rw [e, h2] at h3
    cases h3
  exact ⟨this _ (by simp [Mp.list]), this _ (by simp [Mp.list]), this _ (by simp [Mp.list]), this _ (by simp [Mp.list]), this _ (by simp [Mp.list])⟩
theorem At.nd {w : World} {lo d n : Nat} {m : Mp} {D : Dv} (h : At w lo d n m D) : m.f ≠ m.p ∧ m.f ≠ m.a ∧ m.f ≠ m.i ∧ m.f ≠ m.e ∧ m.p ≠ m.a ∧ m.p ≠ m.i ∧ m.p ≠ m.e ∧ m.a ≠ m.i ∧ m.a ≠ m.e ∧ m.i ≠ m.e := by
  have := h.nodup
  simp [Mp.list] at this
  obtain ⟨⟨a, b, c, d⟩, ⟨e, f, g⟩, ⟨h, i⟩, j⟩ := this
  exact ⟨a, b, c, d, e, f, g, h, i, j⟩

/-- a map of it written -/
theorem At.putP {w w' : World} {lo d n np : Nat} {m : Mp} {D : Dv} {F : Int → Option (List Nat)} (h : At w lo d n m D) (hr : RowMap w' 0 m.p (n + 1) F np) (hg : w.grownBy w' (some m.p)) : At w' lo d (n + 1) m { D with pe := F, np := np } := by
  have ht : Turn [m.p] w w' := Turn.of_grown hg (by simp)
  obtain ⟨n1, n2, n3, n4, n5⟩ := h.ne
  obtain ⟨e1, e2, e3, e4, e5, e6, e7, e8, e9, e10⟩ := h.nd
  obtain ⟨k, hk⟩ := h.rf
  have hS : ∀ x ∈ [m.p], x < 0 ∨ NoCells w x ∨ ∃ v, w.cell? ⟨x, 0, none⟩ = some v ∧ ∀ z, v ≠ .int .u8 z := by
    intro x hx
    rw [List.mem_singleton.1 hx]
    exact .inr (.inl (nocells h.rp.block))
  exact ⟨ht.cells h.cells (by simp; omega), ⟨k, (rows_turn hk ht (by simp; exact e1) hS).mono (by omega) (Nat.le_refl _)⟩, hr, (bools_turn h.ba ht (by simp; omega)).mono (by omega), (bools_turn h.bi ht (by simp; omega)).mono (by omega), (sets_turn h.be ht (by simp; omega)).mono (by omega), h.nodup, h.lod, h.lom⟩
theorem At.putF {w w' : World} {lo d n np : Nat} {m : Mp} {D : Dv} {F : Int → Option (List Nat)} (h : At w lo d n m D) (hr : RowMap w' 0 m.f (n + 1) F np) (hg : w.grownBy w' (some m.f)) : At w' lo d (n + 1) m { D with fl := F } := by
  have ht : Turn [m.f] w w' := Turn.of_grown hg (by simp)
  obtain ⟨n1, n2, n3, n4, n5⟩ := h.ne
  obtain ⟨e1, e2, e3, e4, e5, e6, e7, e8, e9, e10⟩ := h.nd
  obtain ⟨k, hk⟩ := h.rf
  have hS : ∀ x ∈ [m.f], x < 0 ∨ NoCells w x ∨ ∃ v, w.cell? ⟨x, 0, none⟩ = some v ∧ ∀ z, v ≠ .int .u8 z := by
    intro x hx
    rw [List.mem_singleton.1 hx]
    exact .inr (.inl (nocells hk.block))
  exact ⟨ht.cells h.cells (by simp; omega), ⟨np, hr⟩, (rows_turn h.rp ht (by simp; omega) hS).mono (by omega) (Nat.le_refl _), (bools_turn h.ba ht (by simp; omega)).mono (by omega), (bools_turn h.bi ht (by simp; omega)).mono (by omega), (sets_turn h.be ht (by simp; omega)).mono (by omega), h.nodup, h.lod, h.lom⟩
theorem At.putA {w w' : World} {lo d n : Nat} {m : Mp} {D : Dv} {F : Int → Bool} (h : At w lo d n m D) (hr : BoolMap w' m.a (n + 1) F) (hg : w.grownBy w' (some m.a)) : At w' lo d (n + 1) m { D with fa := F } := by
  have ht : Turn [m.a] w w' := Turn.of_grown hg (by simp)
  obtain ⟨n1, n2, n3, n4, n5⟩ := h.ne
  obtain ⟨e1, e2, e3, e4, e5, e6, e7, e8, e9, e10⟩ := h.nd
  obtain ⟨k, hk⟩ := h.rf
  have hS : ∀ x ∈ [m.a], x < 0 ∨ NoCells w x ∨ ∃ v, w.cell? ⟨x, 0, none⟩ = some v ∧ ∀ z, v ≠ .int .u8 z := by
    intro x hx
    rw [List.mem_singleton.1 hx]
    exact .inr (.inl (nocells h.ba.block))
  exact ⟨ht.cells h.cells (by simp; omega), ⟨k, (rows_turn hk ht (by simp; omega) hS).mono (by omega) (Nat.le_refl _)⟩, (rows_turn h.rp ht (by simp; omega) hS).mono (by omega) (Nat.le_refl _), hr, (bools_turn h.bi ht (by simp; omega)).mono (by omega), (sets_turn h.be ht (by simp; omega)).mono (by omega), h.nodup, h.lod, h.lom⟩
theorem At.putI {w w' : World} {lo d n : Nat} {m : Mp} {D : Dv} {F : Int → Bool} (h : At w lo d n m D) (hr : BoolMap w' m.i (n + 1) F) (hg : w.grownBy w' (some m.i)) : At w' lo d (n + 1) m { D with fi := F } := by
  have ht : Turn [m.i] w w' := Turn.of_grown hg (by simp)
  obtain ⟨n1, n2, n3, n4, n5⟩ := h.ne
  obtain ⟨e1, e2, e3, e4, e5, e6, e7, e8, e9, e10⟩ := h.nd
  obtain ⟨k, hk⟩ := h.rf
  have hS : ∀ x ∈ [m.i], x < 0 ∨ NoCells w x ∨ ∃ v, w.cell? ⟨x, 0, none⟩ = some v ∧ ∀ z, v ≠ .int .u8 z := by
    intro x hx
    rw [List.mem_singleton.1 hx]
    exact .inr (.inl (nocells h.bi.block))
  exact ⟨ht.cells h.cells (by simp; omega), ⟨k, (rows_turn hk ht (by simp; omega) hS).mono (by omega) (Nat.le_refl _)⟩, (rows_turn h.rp ht (by simp; omega) hS).mono (by omega) (Nat.le_refl _), (bools_turn h.ba ht (by simp; omega)).mono (by omega), hr, (sets_turn h.be ht (by simp; omega)).mono (by omega), h.nodup, h.lod, h.lom⟩
theorem At.putE {w w' : World} {lo d n k : Nat} {m : Mp} {D : Dv} {F : Int → Bool} (h : At w lo d n m D) (hr : SetMap w' m.e (n + 1) F k) (hg : w.grownBy w' (some m.e)) : At w' lo d (n + 1) m { D with ev := F, ne := k } := by
  have ht : Turn [m.e] w w' := Turn.of_grown hg (by simp)
  obtain ⟨n1, n2, n3, n4, n5⟩ := h.ne
  obtain ⟨e1, e2, e3, e4, e5, e6, e7, e8, e9, e10⟩ := h.nd
  obtain ⟨k0, hk⟩ := h.rf
  have hS : ∀ x ∈ [m.e], x < 0 ∨ NoCells w x ∨ ∃ v, w.cell? ⟨x, 0, none⟩ = some v ∧ ∀ z, v ≠ .int .u8 z := by
    intro x hx
    rw [List.mem_singleton.1 hx]
    exact .inr (.inl (nocells h.be.block))
  exact ⟨ht.cells h.cells (by simp; omega), ⟨k0, (rows_turn hk ht (by simp; omega) hS).mono (by omega) (Nat.le_refl _)⟩, (rows_turn h.rp ht (by simp; omega) hS).mono (by omega) (Nat.le_refl _), (bools_turn h.ba ht (by simp; omega)).mono (by omega), (bools_turn h.bi ht (by simp; omega)).mono (by omega), hr, h.nodup, h.lod, h.lom⟩

/-- one more call -/
theorem At.count {w : World} {lo d n : Nat} {m : Mp} {D : Dv} (h : At w lo d n m D) (c : Nat) : At (w.setCell ⟨d, 6, none⟩ (.int .i64 c)) lo d n m { D with calls := c } :=
  h.recell (Turn.setCell w d 6 _ (by simp)) c D.fuse D.down (by have := h.cells; simp [World.setCell, Array.getElem?_modify, this])

/-- what one row is, of an owned slice -/
theorem row_of {w : World} {base : Nat} {v : Value} {l : List Nat} (h : w.ownsRow base 5 1 v 256 (nums .u8 l)) : ∃ g cap, v = .slice (some ⟨g, 0, none⟩) 256 cap ∧ Nums .u8 w (some ⟨g, 0, none⟩) 256 cap l ∧ base ≤ g := by
  obtain ⟨a, cap, rfl, hr⟩ := ownsRow_slice h
  obtain ⟨g, rfl⟩ := own_some h (by decide)
  exact ⟨g, cap, rfl, hr, (h.lt g rfl).1⟩

/-- what a device has behind a write -/
def Dv.put (D : Dv) (i : Int) (l : List Nat) : Dv := { D with pe := upd D.pe i (some l), np := if (D.pe i).isSome then D.np else D.np + 1, calls := D.calls + 1 }
/-- a write of n bytes: what is told, what the device has then -/
def Dv.write (D : Dv) (i : Int) (n : Nat) (l : List Nat) : Option Nat × Dv :=
  if D.tick.down then (some 5, D.tick) else if 0 ≤ i ∧ i < D.blocks then if n = 256 then (none, D.tick.put i l) else (some 1, D.tick) else (some 4, D.tick)

theorem own1 {d : Nat} {m : Mp} {w w' : World} (h : Turn [d] w w') : Turn (own d m) w w' := h.mono fun x hx => by rw [List.mem_singleton.1 hx]; exact (mem_own d m).1
set_option maxHeartbeats 1600000 in
theorem write_ok (d lo n : Nat) (m : Mp) (D : Dv) (i : Nat) (a : Option Addr) (cap : Nat) (l : List Nat) (w : World) (h : At w lo d n m D) (hi : i < D.blocks) (hb : D.blocks ≤ 6000) (hl : Nums .u8 w a 256 cap l) (hn : n < 100000) (hc : D.calls < 1000000) (hz : D.fuse ≤ 9223372036854775807) (hdn : D.tick.down = false) :
    Calls Tryd.prog 37 #[ptr d, .int .i64 i, .slice a 256 cap] w fun e w' => e = .returned .nilIface ∧ At w' lo d (n + 1) m (D.tick.put i l) ∧ Turn (own d m) w w' := by
  have hf : Fits (i : Int) := fits_nat (by omega)
  have htb := D.tick_same.1
  have htc := D.tick_same.2.2.2.2.2.2.2.2.1
  have hd : decide (0 ≤ (i : Int) ∧ (i : Int) < D.tick.blocks) = true := by rw [decide_eq_true_eq, htb]; omega
  go_enter Tryd.func37, Tryd.ntmps37
  go_wp2_with fail
  refine (gone_w d lo n m D _ h hz).mono ?_
  rintro e w0 ⟨rfl, h0, t0⟩
  rw [hdn]
  have hl0 := nums_turn hl (own1 (m := m) t0) h.nou8
  clear h hl
  have hdl := h0.dlt
  obtain ⟨c0, c1, c2, c3, c4, c5, c6, c7, c8, f6, f2, f7, f8⟩ := h0.c
  go_wp2_with fail
  refine (is_w d lo n m _ i _ h0 hf).mono ?_
  rintro e w' ⟨rfl, rfl⟩
  rw [hd]
  go_wp2_with fail
  go_region_held3 (fun w' => w'.cell? ⟨d, 2, none⟩ = some (.map (some m.p))) (first | exact c2 | exact x3 | exact x4 | go_keep)
    ((go_at_call 93; refine (RefW.clone_w a 256 cap l _ (Nums.below hl0 (below_drewN (Below.refl _ _) _)) (by decide)).mono ?_; rintro e w3 ⟨v, rfl, own3, hb3⟩; obtain ⟨g, gc, rfl, hg, hgb⟩ := row_of own3; have hgb' : w0.heap.size ≤ g := hgb; have h3 := (At.below h0 (below_drewN (Below.refl _ _) 1)).below hb3; obtain ⟨w4, hrun, hr4, hg4⟩ := RowMap.store h3.rp (by omega) hf hg (show 0 ≤ g by omega); have x3 := h3.c.2.2.1; have h4 := h3.putP hr4 hg4; have x4 := h4.c.2.2.1))
  have hT : Turn (own d m) w w4 := (own1 t0).then (((Turn.of_below (below_drewN (Below.refl _ w0) 1)).then (Turn.of_below hb3)).then (Turn.of_grown hg4 (mem_own d m).2.2.1))
  obtain ⟨z0, z1, z2, z3, z4, z5, z6, z7, z8, z9, z10, z11, z12⟩ := h4.c
  have H4 := hid h4
  clear h4 h3 h0 c0 c1 c2 c3 c4 c5 c6 c7 c8 f6 f2 f7 f8 x3 x4 hr4 hg4 hrun hg hgb hgb' own3 hb3 hl0
  simp only [htc] at z0 z1 z2 z3 z4 z5 z6 z7 z8
  go_wp2
  go_ret
  refine ⟨rfl, ?_, hT.then (Turn.setCell _ _ _ _ (mem_own d m).1)⟩
  have := H4.out.count (D.calls + 1)
  rw [show ((D.calls + 1 : Nat) : Int) = (D.calls : Int) + 1 by omega] at this
  unfold Dv.put
  rw [htc]
  exact this

theorem write_no (bs : List Addr) (d lo n : Nat) (m : Mp) (D : Dv) (i : Int) (a : Option Addr) (len cap : Nat) (w : World) (h : At w lo d n m D) (hB : Ev w lo bs five) (hz : D.fuse ≤ 9223372036854775807) (hf : Fits i) (k g : Nat) (hk : k ∈ five) (hg : SeeW.gl[k]? = some g)
    (hw : (D.tick.down = true ∧ k = 5) ∨ (D.tick.down = false ∧ ¬ (0 ≤ i ∧ i < D.blocks) ∧ k = 4) ∨ (D.tick.down = false ∧ (0 ≤ i ∧ i < D.blocks) ∧ len ≠ 256 ∧ k = 1)) :
    Calls Tryd.prog 37 #[ptr d, .int .i64 i, .slice a len cap] w fun e w' => (∃ a, bs[k]? = some a ∧ e = .returned (ev a)) ∧ At w' lo d n m D.tick ∧ Turn [d] w w' := by
  have htb := D.tick_same.1
  obtain ⟨aF, haF, hAF⟩ := hB.get k g hk hg
  rcases hw with ⟨hdn, rfl⟩ | ⟨hdn, hi, rfl⟩ | ⟨hdn, hi, hne, rfl⟩
  · cases hg
    go_enter Tryd.func37, Tryd.ntmps37
    go_wp2_with fail
    refine (gone_w d lo n m D _ h hz).mono ?_
    rintro e w0 ⟨rfl, h0, t0⟩
    rw [hdn]
    have hA1 := ((hB.turn t0 (fun x hx => by rw [List.mem_singleton.1 hx]; exact h.lod)).get 5 _ hk rfl)
    obtain ⟨a', ha', hA1, _⟩ := hA1
    obtain rfl := Option.some.inj (ha'.symm.trans haF)
    go_wp2
    go_ret
    exact ⟨⟨_, haF, rfl⟩, h0, t0⟩
  · cases hg
    have hd : decide (0 ≤ i ∧ i < D.tick.blocks) = false := by rw [decide_eq_false_iff_not, htb]; exact hi
    go_enter Tryd.func37, Tryd.ntmps37
    go_wp2_with fail
    refine (gone_w d lo n m D _ h hz).mono ?_
    rintro e w0 ⟨rfl, h0, t0⟩
    rw [hdn]
    have hA1 := ((hB.turn t0 (fun x hx => by rw [List.mem_singleton.1 hx]; exact h.lod)).get 4 _ hk rfl)
    obtain ⟨a', ha', hA1, _⟩ := hA1
    obtain rfl := Option.some.inj (ha'.symm.trans haF)
    go_wp2_with fail
    refine (is_w d lo n m _ i _ h0 hf).mono ?_
    rintro e w' ⟨rfl, rfl⟩
    rw [hd]
    clear hi
    go_wp2
    go_ret
    exact ⟨⟨_, haF, rfl⟩, h0, t0⟩
  · cases hg
    have hd : decide (0 ≤ i ∧ i < D.tick.blocks) = true := by rw [decide_eq_true_eq, htb]; exact hi
    have hx : ((len : Int) != 256) = true := by rw [bne_iff_ne]; omega
    go_enter Tryd.func37, Tryd.ntmps37
    go_wp2_with fail
    refine (gone_w d lo n m D _ h hz).mono ?_
    rintro e w0 ⟨rfl, h0, t0⟩
    rw [hdn]
    have hA1 := ((hB.turn t0 (fun x hx => by rw [List.mem_singleton.1 hx]; exact h.lod)).get 1 _ hk rfl)
    obtain ⟨a', ha', hA1, _⟩ := hA1
    obtain rfl := Option.some.inj (ha'.symm.trans haF)
    go_wp2_with fail
    refine (is_w d lo n m _ i _ h0 hf).mono ?_
    rintro e w' ⟨rfl, rfl⟩
    rw [hd]
    clear hi
    go_wp2
    go_ret
    exact ⟨⟨_, haF, rfl⟩, h0, t0⟩

/-- any write -/
theorem write_w (bs : List Addr) (d lo n : Nat) (m : Mp) (D : Dv) (i : Int) (a : Option Addr) (len cap : Nat) (l : List Nat) (w : World) (h : At w lo d n m D) (hB : Ev w lo bs five) (hf : Fits i) (hb : D.blocks ≤ 6000) (hl : Nums .u8 w a len cap l) (hn : n < 100000) (hc : D.calls < 1000000) (hz : D.fuse ≤ 9223372036854775807) :
    Calls Tryd.prog 37 #[ptr d, .int .i64 i, .slice a len cap] w fun e w' => (∃ v, Says bs (D.write i len l).1 v ∧ e = .returned v) ∧ At w' lo d (n + 1) m (D.write i len l).2 ∧ Turn (own d m) w w' := by
  have no : ∀ k g, k ∈ five → SeeW.gl[k]? = some g → ((D.tick.down = true ∧ k = 5) ∨ (D.tick.down = false ∧ ¬ (0 ≤ i ∧ i < D.blocks) ∧ k = 4) ∨ (D.tick.down = false ∧ (0 ≤ i ∧ i < D.blocks) ∧ len ≠ 256 ∧ k = 1)) →
      Calls Tryd.prog 37 #[ptr d, .int .i64 i, .slice a len cap] w fun e w' => (∃ v, Says bs (some k) v ∧ e = .returned v) ∧ At w' lo d (n + 1) m D.tick ∧ Turn (own d m) w w' := by
    intro k g hk hg hw
    refine (write_no bs d lo n m D i a len cap w h hB hz hf k g hk hg hw).mono ?_
    rintro e w' ⟨⟨aa, h1, rfl⟩, h2, h3⟩
    exact ⟨⟨_, ⟨aa, h1, rfl⟩, rfl⟩, h2.mono (by omega) (Nat.le_refl _), own1 h3⟩
  unfold Dv.write
  by_cases h1 : D.tick.down = true
  · rw [if_pos h1]
    exact no 5 _ (by decide) rfl (.inl ⟨h1, rfl⟩)
  · have h1' : D.tick.down = false := by simpa using h1
    rw [if_neg h1]
    by_cases h2 : 0 ≤ i ∧ i < D.blocks
    · rw [if_pos h2]
      by_cases h3 : len = 256
      · subst h3
        rw [if_pos rfl]
        obtain ⟨j, rfl⟩ := Int.eq_ofNat_of_zero_le h2.1
        refine (write_ok d lo n m D j a cap l w h (by omega) hb hl hn hc hz h1').mono ?_
        rintro e w' ⟨rfl, h4, h5⟩
        exact ⟨⟨_, rfl, rfl⟩, h4, h5⟩
      · rw [if_neg h3]
        exact no 1 _ (by decide) rfl (.inr (.inr ⟨h1', h2, h3, rfl⟩))
    · rw [if_neg h2]
      exact no 4 _ (by decide) rfl (.inr (.inl ⟨h1', h2, rfl⟩))

/-- what a device has behind a fault -/
def Dv.fault (D : Dv) (i : Int) : Dv := { D with fa := upd D.fa i true, ev := upd D.ev i true, ne := if D.ev i then D.ne else D.ne + 1 }
set_option maxHeartbeats 800000 in
theorem fault_w (d lo n : Nat) (m : Mp) (D : Dv) (i : Int) (w : World) (h : At w lo d n m D) (hf : Fits i) (hn : n < 100000) :
    Calls Tryd.prog 80 #[ptr d, .int .i64 i] w fun e w' => e = .returned (.tuple #[]) ∧ At w' lo d (n + 2) m (D.fault i) ∧ Turn (own d m) w w' := by
  obtain ⟨c0, c1, c2, c3, c4, c5, c6, c7, c8, f6, f2, f7, f8⟩ := h.c
  go_enter Tryd.func80, Tryd.ntmps80
  go_wp2_with (first
    | (at_mapUpdate; refine wpList_putBool _ rfl _ _ _ rfl h.ba (by omega) hf true rfl rfl rfl ?_; intro w1 hr1 hg1; have h1 := h.putA hr1 hg1; obtain ⟨z0, z1, z2, z3, z4, z5, z6, z7, z8, z9, z10, z11, z12⟩ := h1.c)
    | (at_mapUpdate; refine wpList_putSet _ rfl _ _ _ rfl h1.be (by omega) hf rfl rfl rfl ?_; intro w2 hr2 hg2))
  refine bodyPost_end (v := .tuple #[]) (by simp [results, Tryd.results80, go_sem]) rfl ?_
  exact ⟨rfl, h1.putE hr2 hg2, (Turn.of_grown hg1 (mem_own d m).2.2.2.1).then (Turn.of_grown hg2 (mem_own d m).2.2.2.2.2)⟩

/-- what a device has when a block is laid down for good -/
def Dv.lay (D : Dv) (i : Int) (l : List Nat) : Dv := { D with fl := upd D.fl i (some l), fa := upd D.fa i false, fi := upd D.fi i false }
theorem At.delA {w w' : World} {lo d n : Nat} {m : Mp} {D : Dv} {F : Int → Bool} (h : At w lo d n m D) (hr : BoolMap w' m.a n F) (hg : w.grownBy w' (some m.a)) : At w' lo d (n + 1) m { D with fa := F } := h.putA (hr.mono (by omega)) hg
theorem At.delI {w w' : World} {lo d n : Nat} {m : Mp} {D : Dv} {F : Int → Bool} (h : At w lo d n m D) (hr : BoolMap w' m.i n F) (hg : w.grownBy w' (some m.i)) : At w' lo d (n + 1) m { D with fi := F } := h.putI (hr.mono (by omega)) hg
set_option maxHeartbeats 1600000 in
theorem lay_w (d lo n : Nat) (m : Mp) (D : Dv) (i : Int) (g cap : Nat) (l : List Nat) (w : World) (h : At w lo d n m D) (hf : Fits i) (hl : Nums .u8 w (some ⟨g, 0, none⟩) 256 cap l) (hg : 0 ≤ g) (hn : n < 100000) :
    Calls Tryd.prog 76 #[ptr d, .int .i64 i, .slice (some ⟨g, 0, none⟩) 256 cap] w fun e w' => e = .returned (.tuple #[]) ∧ At w' lo d (n + 3) m (D.lay i l) ∧ Turn [m.f, m.a, m.i] w w' := by
  obtain ⟨c0, c1, c2, c3, c4, c5, c6, c7, c8, f6, f2, f7, f8⟩ := h.c
  obtain ⟨k, hk⟩ := h.rf
  go_enter Tryd.func76, Tryd.ntmps76
  go_wp2_with (first
    | (at_mapUpdate; refine wpList_putRow _ rfl _ _ _ rfl hk (by omega) hf hl (by omega) rfl rfl rfl ?_; intro w1 hr1 hg1; have h1 := h.putF hr1 hg1; obtain ⟨z0, z1, z2, z3, z4, z5, z6, z7, z8, z9, z10, z11, z12⟩ := h1.c)
    | (at_delete; refine wpList_delBool _ rfl _ _ rfl h1.ba hf rfl rfl ?_; intro w2 hr2 hg2; have h2 := h1.delA hr2 hg2; obtain ⟨y0, y1, y2, y3, y4, y5, y6, y7, y8, y9, y10, y11, y12⟩ := h2.c)
    | (at_delete; refine wpList_delBool _ rfl _ _ rfl h2.bi hf rfl rfl ?_; intro w3 hr3 hg3))
  refine bodyPost_end (v := .tuple #[]) (by simp [results, Tryd.results76, go_sem]) rfl ?_
  exact ⟨rfl, h2.delI hr3 hg3, ((Turn.of_grown hg1 (by simp)).then (Turn.of_grown hg2 (by simp))).then (Turn.of_grown hg3 (by simp))⟩

/-- a block may be faulted -/
def Dv.may (D : Dv) (i : Int) : Bool := decide (0 ≤ i ∧ i < D.blocks) && (!(D.pe i).isSome && !D.fa i)
set_option maxHeartbeats 800000 in
theorem may_w (d lo n : Nat) (m : Mp) (D : Dv) (i : Int) (w : World) (h : At w lo d n m D) (hf : Fits i) :
    Calls Tryd.prog 77 #[ptr d, .int .i64 i] w fun e w' => e = .returned (.bool (D.may i)) ∧ w = w' := by
  obtain ⟨c0, c1, c2, c3, c4, c5, c6, c7, c8, f6, f2, f7, f8⟩ := h.c
  have hla := h.ba.look hf
  unfold Dv.may
  cases hd : decide (0 ≤ i ∧ i < D.blocks)
  · go_enter Tryd.func77, Tryd.ntmps77
    go_wp2_with fail
    refine (is_w d lo n m D i _ h hf).mono ?_
    rintro e w' ⟨rfl, rfl⟩
    rw [hd]
    go_wp2
    go_ret
    exact ⟨rfl, rfl⟩
  · cases hF : D.pe i with
    | none =>
      have hl := h.rp.look_none hf hF
      cases hb2 : D.fa i
      all_goals
        rw [hb2] at hla
        go_enter Tryd.func77, Tryd.ntmps77
        go_wp2_with fail
        refine (is_w d lo n m D i _ h hf).mono ?_
        rintro e w' ⟨rfl, rfl⟩
        rw [hd]
        go_wp2
        go_ret
        exact ⟨ret_bool (by simp), rfl⟩
    | some l =>
      obtain ⟨g, cap, hl, _, _⟩ := h.rp.look_some hf hF
      go_enter Tryd.func77, Tryd.ntmps77
      go_wp2_with fail
      refine (is_w d lo n m D i _ h hf).mono ?_
      rintro e w' ⟨rfl, rfl⟩
      rw [hd]
      go_wp2
      go_ret
      exact ⟨ret_bool (by simp), rfl⟩
end Go.Proofs.YtagbnacffiagcaaDoor.DevG

namespace Go.Proofs.YtagbnacffiagcaaDoor.DevG
open Go Go.RowKit Go.Maps Go.Proofs.YtagbnacffiagcaaDoor.Mem Go.Proofs.YtagbnacffiagcaaDoor.MapsW Go.Proofs.YtagbnacffiagcaaDoor.SeeW
set_option linter.unusedVariables false
set_option maxRecDepth 100000

/-- what a device has behind Fail -/
def Dv.fail (D : Dv) (i : Int) : Dv := if D.may i then { D with fi := upd D.fi i true }.fault i else D

set_option maxHeartbeats 800000 in
theorem fail_w (d lo n : Nat) (m : Mp) (D : Dv) (i : Int) (w : World) (h : At w lo d n m D) (hf : Fits i) (hn : n < 90000) :
    Calls Tryd.prog 17 #[ptr d, .int .i64 i] w fun e w' => e = .returned (.bool (D.may i)) ∧ At w' lo d (n + 3) m (D.fail i) ∧ Turn (own d m) w w' := by
  obtain ⟨c0, c1, c2, c3, c4, c5, c6, c7, c8, f6, f2, f7, f8⟩ := h.c
  have hm := may_w d lo n m D i w h hf
  cases hM : D.may i
  · rw [hM] at hm
    have e1 : D.fail i = D := by unfold Dv.fail; rw [hM]; rfl
    rw [e1]
    go_enter Tryd.func17, Tryd.ntmps17
    go_wp2_with fail
    refine hm.mono ?_
    rintro e w' ⟨rfl, rfl⟩
    go_wp2
    go_ret
    exact ⟨rfl, h.mono (by omega) (Nat.le_refl _), Turn.refl _ _⟩
  · rw [hM] at hm
    have e1 : D.fail i = { D with fi := upd D.fi i true }.fault i := by unfold Dv.fail; rw [hM]; rfl
    rw [e1]
    go_enter Tryd.func17, Tryd.ntmps17
    go_wp2_with fail
    refine hm.mono ?_
    rintro e w' ⟨rfl, rfl⟩
    go_wp2_with (at_mapUpdate; refine wpList_putBool _ rfl _ _ _ rfl h.bi (by omega) hf true rfl rfl rfl ?_; intro w1 hr1 hg1)
    have h1 := h.putI hr1 hg1
    refine (fault_w d lo (n + 1) m _ i _ h1 hf (by omega)).mono ?_
    rintro e w2 ⟨rfl, h2, t2⟩
    go_wp2
    go_ret
    exact ⟨rfl, h2, (Turn.of_grown hg1 (mem_own d m).2.2.2.2.1).then t2⟩

/-- what a read gives, of a block that is, of a device that is up: the bytes, or none -/
def Dv.read (D : Dv) (i : Int) : Option (List Nat) :=
  match D.pe i with
  | some l => some l
  | none => if D.fi i then none else some (keptOf D i)
/-- a read, whatever is: the error's place, or the bytes -/
def Dv.get (D : Dv) (i : Int) : Except Nat (List Nat) :=
  if D.down then .error 5 else if 0 ≤ i ∧ i < D.blocks then (match D.read i with
    | some l => .ok l
    | none => .error 6) else .error 4
/-- what is handed back of a read -/
def Got (bs : List Addr) (w : World) (r : Except Nat (List Nat)) (e : Ending) (w' : World) : Prop := match r with
  | .ok l => ∃ g cap, e = .returned (.tuple #[.slice (some ⟨g, 0, none⟩) 256 cap, .nilIface]) ∧ Nums .u8 w' (some ⟨g, 0, none⟩) 256 cap l ∧ w.heap.size ≤ g
  | .error k => ∃ a, bs[k]? = some a ∧ e = .returned (.tuple #[.slice none 0 0, ev a])
set_option maxHeartbeats 1600000 in
theorem read_up (bs : List Addr) (d lo n : Nat) (m : Mp) (D : Dv) (i : Int) (w : World) (h : At w lo d n m D) (hB : Ev w lo bs five) (hf : Fits i) (hu : D.down = false) (hi : 0 ≤ i ∧ i < D.blocks) :
    Calls Tryd.prog 36 #[ptr d, .int .i64 i] w fun e w' => Got bs w (match D.read i with
      | some l => .ok l
      | none => .error 6) e w' ∧ Below w.heap.size w w' := by
  have hd : decide (0 ≤ i ∧ i < D.blocks) = true := decide_eq_true hi
  clear hi
  obtain ⟨c0, c1, c2, c3, c4, c5, c6, c7, c8, f6, f2, f7, f8⟩ := h.c
  rw [hu] at c8
  have hfi := h.bi.look hf
  cases hF : D.pe i with
  | some l =>
    obtain ⟨g, cap, hl, hn, _⟩ := h.rp.look_some hf hF
    have e1 : D.read i = some l := by unfold Dv.read; rw [hF]
    rw [e1]
    go_enter Tryd.func36, Tryd.ntmps36
    go_wp2_with fail
    refine (is_w d lo n m D i _ h hf).mono ?_
    rintro e w' ⟨rfl, rfl⟩
    rw [hd]
    go_wp2_with fail
    refine (RefW.clone_w _ 256 cap l _ hn (by decide)).mono ?_
    rintro e w1 ⟨v, rfl, own1, hb1⟩
    obtain ⟨g1, cap1, rfl, hn1, hg1⟩ := row_of own1
    go_wp2
    refine bodyPost_ret (v := .tuple #[.slice (some ⟨g1, 0, none⟩) 256 cap1, .nilIface]) (by simp [results, Tryd.results36, go_sem]) rfl ⟨⟨_, _, rfl, hn1, hg1⟩, hb1⟩
  | none =>
    have hl := h.rp.look_none hf hF
    cases hI : D.fi i
    · have e1 : D.read i = some (keptOf D i) := by unfold Dv.read; rw [hF]; simp only; rw [hI]; rfl
      rw [e1]
      rw [hI] at hfi
      go_enter Tryd.func36, Tryd.ntmps36
      go_wp2_with fail
      refine (is_w d lo n m D i _ h hf).mono ?_
      rintro e w' ⟨rfl, rfl⟩
      rw [hd]
      go_wp2_with fail
      refine (kept_w d lo n m D i _ h hf).mono ?_
      rintro e w1 ⟨g, cap, rfl, hn, _, hb1⟩
      go_wp2_with fail
      refine (RefW.clone_w _ 256 cap _ _ hn (by decide)).mono ?_
      rintro e w2 ⟨v, rfl, own2, hb2⟩
      obtain ⟨g1, cap1, rfl, hn1, hg1⟩ := row_of own2
      have z1 := hb1.size
      go_wp2
      refine bodyPost_ret (v := .tuple #[.slice (some ⟨g1, 0, none⟩) 256 cap1, .nilIface]) (by simp [results, Tryd.results36, go_sem]) rfl ⟨⟨_, _, rfl, hn1, by omega⟩, hb1.trans (hb2.mono z1)⟩
    · have e1 : D.read i = none := by unfold Dv.read; rw [hF]; simp only; rw [hI]; rfl
      rw [e1]
      rw [hI] at hfi
      obtain ⟨aI, haI, hAI⟩ := hB.get 6 _ (by decide) rfl
      have hA1 := hAI.1
      go_enter Tryd.func36, Tryd.ntmps36
      go_wp2_with fail
      refine (is_w d lo n m D i _ h hf).mono ?_
      rintro e w' ⟨rfl, rfl⟩
      rw [hd]
      go_wp2
      go_quiet (fail)
      go_wp2
      refine bodyPost_ret (v := .tuple #[.slice none 0 0, ev aI]) (by simp [results, Tryd.results36, go_sem]) rfl ⟨⟨aI, haI, rfl⟩, below_drewN (Below.refl _ _) _⟩
set_option maxHeartbeats 1600000 in
theorem read_w (bs : List Addr) (d lo n : Nat) (m : Mp) (D : Dv) (i : Int) (w : World) (h : At w lo d n m D) (hB : Ev w lo bs five) (hf : Fits i) :
    Calls Tryd.prog 36 #[ptr d, .int .i64 i] w fun e w' => Got bs w (D.get i) e w' ∧ Below w.heap.size w w' := by
  unfold Dv.get
  cases hu : D.down
  · by_cases hi : 0 ≤ i ∧ i < D.blocks
    · rw [if_neg (by decide), if_pos hi]
      exact read_up bs d lo n m D i w h hB hf hu hi
    · rw [if_neg (by decide), if_neg hi]
      have hd : decide (0 ≤ i ∧ i < D.blocks) = false := decide_eq_false hi
      clear hi
      obtain ⟨c0, c1, c2, c3, c4, c5, c6, c7, c8, f6, f2, f7, f8⟩ := h.c
      rw [hu] at c8
      obtain ⟨aF, haF, hAF⟩ := hB.get 4 _ (by decide) rfl
      have hA1 := hAF.1
      go_enter Tryd.func36, Tryd.ntmps36
      go_wp2_with fail
      refine (is_w d lo n m D i _ h hf).mono ?_
      rintro e w' ⟨rfl, rfl⟩
      rw [hd]
      go_wp2
      go_quiet (fail)
      go_wp2
      refine bodyPost_ret (v := .tuple #[.slice none 0 0, ev aF]) (by simp [results, Tryd.results36, go_sem]) rfl ⟨⟨aF, haF, rfl⟩, below_drewN (Below.refl _ _) _⟩
  · rw [if_pos rfl]
    obtain ⟨c0, c1, c2, c3, c4, c5, c6, c7, c8, f6, f2, f7, f8⟩ := h.c
    rw [hu] at c8
    obtain ⟨aF, haF, hAF⟩ := hB.get 5 _ (by decide) rfl
    have hA1 := hAF.1
    go_enter Tryd.func36, Tryd.ntmps36
    go_wp2
    go_quiet (fail)
    go_wp2
    refine bodyPost_ret (v := .tuple #[.slice none 0 0, ev aF]) (by simp [results, Tryd.results36, go_sem]) rfl ⟨⟨aF, haF, rfl⟩, below_drewN (Below.refl _ _) _⟩

/-- may a block be turned so? -/
def Dv.mayS (D : Dv) (i at_ : Int) (t : Nat) : Bool := D.may i && decide (0 ≤ at_ ∧ at_ ≤ 252 ∧ t ≠ 0)
/-- what a device has behind Spoil -/
def Dv.spoil (D : Dv) (i : Int) (at_ : Int) (t : Nat) : Dv := if D.mayS i at_ t then { D with fl := upd D.fl i (some (Crc.turned (keptOf D i) at_ t)) }.fault i else D
theorem spoil_no {D : Dv} {i at_ : Int} {t : Nat} (h : D.mayS i at_ t = false) : D.spoil i at_ t = D := by unfold Dv.spoil; rw [h]; rfl
theorem spoil_yes {D : Dv} {i at_ : Int} {t : Nat} (h : D.mayS i at_ t = true) : D.spoil i at_ t = { D with fl := upd D.fl i (some (Crc.turned (keptOf D i) at_ t)) }.fault i := by unfold Dv.spoil; rw [h]; rfl
set_option maxHeartbeats 1600000 in
theorem spoil_w (d lo n : Nat) (m : Mp) (D : Dv) (i at_ : Int) (t : Nat) (w : World) (h : At w lo d n m D) (hf : Fits i) (hn : n < 90000) (ha : Fits at_) (ht : t < 4294967296) (hbt : Crc.Bytes (keptOf D i)) :
    Calls Tryd.prog 16 #[ptr d, .int .i64 i, .int .i64 at_, .int .u32 t] w fun e w' => e = .returned (.bool (D.mayS i at_ t)) ∧ At w' lo d (n + 3) m (D.spoil i at_ t) ∧ Turn (own d m) w w' := by
  obtain ⟨c0, c1, c2, c3, c4, c5, c6, c7, c8, f6, f2, f7, f8⟩ := h.c
  have hm := may_w d lo n m D i w h hf
  have hdl := h.dlt
  cases hM : D.may i
  · rw [hM] at hm
    have e2 : D.mayS i at_ t = false := by unfold Dv.mayS; rw [hM]; rfl
    rw [spoil_no e2, e2]
    clear e2
    go_enter Tryd.func16, Tryd.ntmps16
    go_wp2_with fail
    refine hm.mono ?_
    rintro e w' ⟨rfl, rfl⟩
    go_wp2
    go_ret
    exact ⟨rfl, h.mono (by omega) (Nat.le_refl _), Turn.refl _ _⟩
  · rw [hM] at hm
    by_cases ha0 : 0 ≤ at_
    · by_cases ha1 : at_ ≤ 252
      · by_cases h0 : t = 0
        · subst h0
          have e2 : D.mayS i at_ 0 = false := by unfold Dv.mayS; rw [hM]; simp
          rw [spoil_no e2, e2]
          clear e2
          go_enter Tryd.func16, Tryd.ntmps16
          go_wp2_with fail
          refine hm.mono ?_
          rintro e w' ⟨rfl, rfl⟩
          go_wp2
          go_ret
          exact ⟨rfl, h.mono (by omega) (Nat.le_refl _), Turn.refl _ _⟩
        · have e2 : D.mayS i at_ t = true := by unfold Dv.mayS; rw [hM, decide_eq_true ⟨ha0, ha1, h0⟩]; rfl
          rw [spoil_yes e2, e2]
          have t0 : ((t : Int) == 0) = false := by rw [beq_eq_false_iff_ne]; omega
          clear e2
          go_enter Tryd.func16, Tryd.ntmps16
          go_wp2_with fail
          refine hm.mono ?_
          rintro e w' ⟨rfl, rfl⟩
          go_wp2_with fail
          go_region_held3 (fun w' => w'.cell? ⟨d, 1, none⟩ = some (.map (some m.f))) (first | exact c1 | exact x3 | exact x4 | exact x5 | go_keep)
            (first
              | (go_at_call 79; refine (kept_w d lo n m D i _ (At.below h (below_drewN (Below.refl _ _) 1)) hf).mono ?_; rintro e w3 ⟨g3, gc3, rfl, hg3, hlt3, hb3⟩; have h3 := (At.below h (below_drewN (Below.refl _ _) 1)).below hb3; have x3 := h3.c.2.1)
              | (go_at_call 78; refine (CrcW.turned_w _ 256 gc3 _ at_ t _ hg3 hbt (by decide) ha.1 ha.2 ht).mono ?_; rintro e w4 ⟨v, rfl, own4, hb4⟩; obtain ⟨g, gc, rfl, hg, hgb⟩ := row_of own4; have h4 := h3.below hb4; have hd3 := h3.dlt; obtain ⟨k4, hk4⟩ := h4.rf; obtain ⟨w5, hrun, hr5, hg5⟩ := RowMap.store hk4 (by omega) hf hg (show 0 ≤ g by omega); have x4 := h4.c.2.1; have h5 := h4.putF hr5 hg5; have x5 := h5.c.2.1))
          have hT : Turn (own d m) w w5 := (((Turn.of_below (below_drewN (Below.refl _ w) 1)).then (Turn.of_below hb3)).then (Turn.of_below hb4)).then (Turn.of_grown hg5 (mem_own d m).2.1)
          go_wp2_with fail
          refine (fault_w d lo (n + 1) m _ i _ h5 hf (by omega)).mono ?_
          rintro e w6 ⟨rfl, h6, t6⟩
          go_wp2
          go_ret
          exact ⟨rfl, h6, hT.then t6⟩
      · have e2 : D.mayS i at_ t = false := by unfold Dv.mayS; rw [hM, decide_eq_false (fun x => ha1 x.2.1)]; rfl
        rw [spoil_no e2, e2]
        clear e2
        have g2 : decide ((252 : Int) < at_) = true := decide_eq_true (by omega)
        go_enter Tryd.func16, Tryd.ntmps16
        go_wp2_with fail
        refine hm.mono ?_
        rintro e w' ⟨rfl, rfl⟩
        go_wp2
        go_ret
        exact ⟨rfl, h.mono (by omega) (Nat.le_refl _), Turn.refl _ _⟩
    · have e2 : D.mayS i at_ t = false := by unfold Dv.mayS; rw [hM, decide_eq_false (fun x => ha0 x.1)]; rfl
      rw [spoil_no e2, e2]
      clear e2
      have g2 : decide (at_ < (0 : Int)) = true := decide_eq_true (by omega)
      go_enter Tryd.func16, Tryd.ntmps16
      go_wp2_with fail
      refine hm.mono ?_
      rintro e w' ⟨rfl, rfl⟩
      go_wp2
      go_ret
      exact ⟨rfl, h.mono (by omega) (Nat.le_refl _), Turn.refl _ _⟩

/-- what a device has behind Raw -/
def Dv.mayR (D : Dv) (i : Int) (n : Nat) : Bool := decide (0 ≤ i ∧ i < D.blocks) && decide (n = 256)
def Dv.raw (D : Dv) (i : Int) (l : List Nat) : Dv := { D.lay i l with pe := upd D.pe i none, np := if (D.pe i).isSome then D.np - 1 else D.np }
set_option maxHeartbeats 1600000 in
theorem raw_ok (d lo n : Nat) (m : Mp) (D : Dv) (i : Int) (a : Option Addr) (cap : Nat) (l : List Nat) (w : World) (h : At w lo d n m D) (hf : Fits i) (hi : 0 ≤ i ∧ i < D.blocks) (hl : Nums .u8 w a 256 cap l) (hn : n < 90000) :
    Calls Tryd.prog 47 #[ptr d, .int .i64 i, .slice a 256 cap] w fun e w' => e = .returned (.bool true) ∧ At w' lo d (n + 4) m (D.raw i l) ∧ Turn (own d m) w w' := by
  have hd : decide (0 ≤ i ∧ i < D.blocks) = true := decide_eq_true hi
  have hdl := h.dlt
  clear hi
  go_enter Tryd.func47, Tryd.ntmps47
  go_wp2_with fail
  refine (is_w d lo n m D i _ h hf).mono ?_
  rintro e w' ⟨rfl, rfl⟩
  rw [hd]
  go_wp2_with fail
  refine (RefW.clone_w _ 256 cap l _ hl (by decide)).mono ?_
  rintro e w1 ⟨v, rfl, own1', hb1⟩
  obtain ⟨g1, cap1, rfl, hn1, hg1⟩ := row_of own1'
  have h1 := h.below hb1
  go_wp2_with fail
  refine (lay_w d lo n m D i g1 cap1 l _ h1 hf hn1 (by omega) (by omega)).mono ?_
  rintro e w2 ⟨rfl, h2, t2⟩
  obtain ⟨c0, c1, c2, c3, c4, c5, c6, c7, c8, f6, f2, f7, f8⟩ := h2.c
  go_wp2_with (at_delete; refine wpList_delRow _ rfl _ _ rfl h2.rp hf rfl rfl ?_; intro w3 hr3 hg3)
  go_ret
  have hsub : Turn (own d m) w w2 := (Turn.of_below hb1).then (t2.mono (by simp [own, Mp.list]))
  exact ⟨rfl, h2.putP (hr3.mono (by omega) (Nat.le_refl _)) hg3, hsub.then (Turn.of_grown hg3 (mem_own d m).2.2.1)⟩
end Go.Proofs.YtagbnacffiagcaaDoor.DevG

namespace Go.Proofs.YtagbnacffiagcaaDoor.RDevW
open Go Go.RowKit Go.Maps Go.Proofs.YtagbnacffiagcaaDoor.Mem Go.Proofs.YtagbnacffiagcaaDoor.MapsW Go.Proofs.YtagbnacffiagcaaDoor.DevG
set_option linter.unusedVariables false
set_option maxRecDepth 100000

abbrev updN {α : Type} (F : Nat → α) (p : Nat) (v : α) : Nat → α := fun q => if q = p then v else F q
/-- block g: b bools -/
structure Bls (w : World) (g b : Nat) (F : Nat → Bool) : Prop where
  blk : ∃ cs t, w.heap[g]? = some (.cells cs t)
  at_ : ∀ q, q < b → w.cell? ⟨g, q, none⟩ = some (.bool (F q))
/-- block g: b rows of 256 bytes -/
structure Rws (w : World) (g b : Nat) (F : Nat → List Nat) : Prop where
  blk : ∃ cs t, w.heap[g]? = some (.cells cs t)
  at_ : ∀ q, q < b → ∃ r rc, w.cell? ⟨g, q, none⟩ = some (.slice (some ⟨r, 0, none⟩) 256 rc) ∧ Nums .u8 w (some ⟨r, 0, none⟩) 256 rc (F q)
theorem frozen_of {w : World} {g : Nat} (h : ∃ cs t, w.heap[g]? = some (.cells cs t)) (q : Nat) : w.frozen? ⟨g, q, none⟩ = false := by
  obtain ⟨cs, t, h1⟩ := h
  simp [World.frozen?, h1]
theorem lt_of {w : World} {g : Nat} (h : ∃ cs t, w.heap[g]? = some (.cells cs t)) : g < w.heap.size := let ⟨_, _, e⟩ := h; (Array.getElem?_eq_some_iff.1 e).1
/-- no row of bytes -/
def No8 (w : World) (x : Nat) : Prop := NoCells w x ∨ ∃ v, w.cell? ⟨x, 0, none⟩ = some v ∧ ∀ z, v ≠ .int .u8 z
variable {w w' : World} {g b : Nat} {S : List Nat}
theorem Bls.turn {F : Nat → Bool} (h : Bls w g b F) (t : Turn S w w') (hb : g ∉ S) : Bls w' g b F := by
  have e := t.block g (lt_of h.blk) hb
  exact ⟨by rw [e]; exact h.blk, fun q hq => by rw [World.cell?_of_block (w := w) e]; exact h.at_ q hq⟩
theorem Bls.set {F : Nat → Bool} (h : Bls w g b F) (p : Nat) (v : Bool) : Bls (w.setCell ⟨g, p, none⟩ (.bool v)) g b (updN F p v) := by
  obtain ⟨cs, t, h1⟩ := h.blk
  refine ⟨⟨_, _, heap_setCell_same w g p cs _ _ h1⟩, fun q hq => ?_⟩
  show World.cell? _ _ = some (Value.bool (if q = p then v else F q))
  by_cases e : q = p
  · subst e
    rw [if_pos rfl]
    exact World.cell?_setCell_same w _ _ (h.at_ q hq)
  · rw [if_neg e, World.cell?_setCell_other w (a := ⟨g, p, none⟩) (b := ⟨g, q, none⟩) (v := _) (fun h => e (congrArg Addr.off h).symm)]
    exact h.at_ q hq
theorem nums_no8 {r cap : Nat} {l : List Nat} (h : Nums .u8 w (some ⟨r, 0, none⟩) 256 cap l) (t : Turn S w w') (hS : ∀ x ∈ S, No8 w x) : Nums .u8 w' (some ⟨r, 0, none⟩) 256 cap l := by
  obtain ⟨c, ty, f, hc⟩ := nums_cells h (by decide)
  refine nums_of_cells h (t.block r (Array.getElem?_eq_some_iff.1 hc).1 fun hm => ?_)
  rcases hS r hm with h2 | ⟨v, hv, hz⟩
  · exact h2 _ _ _ hc
  · obtain ⟨b', o', he, hc'⟩ := h.at (j := 0) (by rw [h.len]; decide)
    cases he
    rw [Nat.zero_add] at hc'
    rw [hc'] at hv
    exact hz _ (Option.some.inj hv).symm
theorem Rws.turn {F : Nat → List Nat} (h : Rws w g b F) (t : Turn S w w') (hb : g ∉ S) (hS : ∀ x ∈ S, No8 w x) : Rws w' g b F := by
  have e := t.block g (lt_of h.blk) hb
  refine ⟨by rw [e]; exact h.blk, fun q hq => ?_⟩
  obtain ⟨r, rc, h1, h2⟩ := h.at_ q hq
  exact ⟨r, rc, by rw [World.cell?_of_block (w := w) e]; exact h1, nums_no8 h2 t hS⟩
theorem Rws.no8 {F : Nat → List Nat} (h : Rws w g b F) (hb : 0 < b) : ∃ v, w.cell? ⟨g, 0, none⟩ = some v ∧ ∀ z, v ≠ .int .u8 z :=
  let ⟨r, rc, h1, _⟩ := h.at_ 0 hb; ⟨_, h1, fun z e => by cases e⟩
theorem Rws.set {F : Nat → List Nat} (h : Rws w g b F) (p : Nat) {r rc : Nat} {l : List Nat} (hl : Nums .u8 w (some ⟨r, 0, none⟩) 256 rc l) (hn : No8 w g) : Rws (w.setCell ⟨g, p, none⟩ (.slice (some ⟨r, 0, none⟩) 256 rc)) g b (updN F p l) := by
  obtain ⟨cs, t, h1⟩ := h.blk
  have T := Turn.setCell w g p (.slice (some ⟨r, 0, none⟩) 256 rc) (S := [g]) (by simp)
  have hS : ∀ x ∈ [g], No8 w x := fun x hx => by rw [List.mem_singleton.1 hx]; exact hn
  refine ⟨⟨_, _, heap_setCell_same w g p cs _ _ h1⟩, fun q hq => ?_⟩
  show ∃ r' rc', _ ∧ Nums .u8 _ _ 256 rc' (if q = p then l else F q)
  obtain ⟨r', rc', h2, h3⟩ := h.at_ q hq
  by_cases e : q = p
  · subst e
    rw [if_pos rfl]
    exact ⟨r, rc, World.cell?_setCell_same w _ _ h2, nums_no8 hl T hS⟩
  · rw [if_neg e]
    exact ⟨r', rc', by rw [World.cell?_setCell_other w (a := ⟨g, p, none⟩) (b := ⟨g, q, none⟩) (v := _) (fun h => e (congrArg Addr.off h).symm)]; exact h2, nums_no8 h3 T hS⟩
/-- its arrays -/
structure Gs where
  f : Nat
  w : Nat
  p : Nat
  a : Nat
  i : Nat
  e : Nat
abbrev rown (x : Nat) (G : Gs) : List Nat := [x, G.f, G.w, G.p, G.a, G.i, G.e]
/-- what it holds -/
structure Rd where
  b : Nat
  F : Nat → List Nat
  W : Nat → List Nat
  P : Nat → Bool
  A : Nat → Bool
  I : Nat → Bool
  E : Nat → Bool
  calls : Nat
  arm : Nat
  down : Bool
abbrev rcells (G : Gs) (R : Rd) (cf cw : Nat) : Array Value :=
  #[.slice (some ⟨G.f, 0, none⟩) R.b cf, .slice (some ⟨G.w, 0, none⟩) R.b cw, .slice (some ⟨G.p, 0, none⟩) R.b R.b, .slice (some ⟨G.a, 0, none⟩) R.b R.b, .slice (some ⟨G.i, 0, none⟩) R.b R.b, .slice (some ⟨G.e, 0, none⟩) R.b R.b, .int .i64 R.calls, .int .i64 R.arm, .bool R.down]
/-- block x of w is such a device -/
structure RAt (w : World) (lo x : Nat) (G : Gs) (R : Rd) : Prop where
  b1 : 1 ≤ R.b
  b2 : R.b ≤ 6000
  cells : ∃ cf cw, w.heap[x]? = some (.cells (rcells G R cf cw) 95)
  rf : Rws w G.f R.b R.F
  rw : Rws w G.w R.b R.W
  rp : Bls w G.p R.b R.P
  ra : Bls w G.a R.b R.A
  ri : Bls w G.i R.b R.I
  re : Bls w G.e R.b R.E
  n8 : ∀ y ∈ rown x G, No8 w y
  nd : (rown x G).Nodup
  lo_ : ∀ y ∈ rown x G, lo ≤ y
variable {lo x : Nat} {G : Gs} {R : Rd}
theorem RAt.xlt (h : RAt w lo x G R) : x < w.heap.size := let ⟨_, _, e⟩ := h.cells; (Array.getElem?_eq_some_iff.1 e).1
theorem RAt.olds (h : RAt w lo x G R) : ∀ y ∈ rown x G, y < w.heap.size := by
  intro y hy
  simp only [List.mem_cons, List.not_mem_nil, or_false] at hy
  rcases hy with rfl | rfl | rfl | rfl | rfl | rfl | rfl
  · exact h.xlt
  · exact lt_of h.rf.blk
  · exact lt_of h.rw.blk
  · exact lt_of h.rp.blk
  · exact lt_of h.ra.blk
  · exact lt_of h.ri.blk
  · exact lt_of h.re.blk
theorem RAt.c (h : RAt w lo x G R) : ∃ cf cw,
    w.cell? ⟨x, 0, none⟩ = some (.slice (some ⟨G.f, 0, none⟩) R.b cf) ∧ w.cell? ⟨x, 1, none⟩ = some (.slice (some ⟨G.w, 0, none⟩) R.b cw) ∧ w.cell? ⟨x, 2, none⟩ = some (.slice (some ⟨G.p, 0, none⟩) R.b R.b) ∧ w.cell? ⟨x, 3, none⟩ = some (.slice (some ⟨G.a, 0, none⟩) R.b R.b) ∧ w.cell? ⟨x, 4, none⟩ = some (.slice (some ⟨G.i, 0, none⟩) R.b R.b) ∧ w.cell? ⟨x, 5, none⟩ = some (.slice (some ⟨G.e, 0, none⟩) R.b R.b) ∧ w.cell? ⟨x, 6, none⟩ = some (.int .i64 R.calls) ∧ w.cell? ⟨x, 7, none⟩ = some (.int .i64 R.arm) ∧ w.cell? ⟨x, 8, none⟩ = some (.bool R.down) ∧ w.frozen? ⟨x, 6, none⟩ = false ∧ w.frozen? ⟨x, 7, none⟩ = false ∧ w.frozen? ⟨x, 8, none⟩ = false := by
  obtain ⟨cf, cw, e⟩ := h.cells
  exact ⟨cf, cw, by simp [World.cell?, World.frozen?, e]⟩
theorem no8_keep {y : Nat} (h : No8 w y) (e : w'.heap[y]? = w.heap[y]?) : No8 w' y := by
  rcases h with h | ⟨v, h1, h2⟩
  · exact .inl (by unfold NoCells at *; rw [e]; exact h)
  · exact .inr ⟨v, by rw [World.cell?_of_block (w := w) e]; exact h1, h2⟩
/-- no byte is the device's own -/
theorem RAt.xno8 (h : RAt w lo x G R) (off : Nat) (z : Int) : w.cell? ⟨x, off, none⟩ ≠ some (.int .u8 z) := by
  obtain ⟨cf, cw, hc⟩ := h.cells
  refine nou8_cells hc ?_ off z
  intro v hv z e
  subst e
  simp at hv
/-- what writes elsewhere leaves it -/
theorem RAt.turn (h : RAt w lo x G R) (t : Turn S w w') (hS : ∀ y ∈ S, No8 w y) (hd : ∀ y ∈ rown x G, y ∉ S) : RAt w' lo x G R := by
  have m : x ∈ rown x G ∧ G.f ∈ rown x G ∧ G.w ∈ rown x G ∧ G.p ∈ rown x G ∧ G.a ∈ rown x G ∧ G.i ∈ rown x G ∧ G.e ∈ rown x G := by simp
  obtain ⟨cf, cw, hc⟩ := h.cells
  exact ⟨h.b1, h.b2, ⟨cf, cw, t.cells hc (hd _ m.1)⟩, h.rf.turn t (hd _ m.2.1) hS, h.rw.turn t (hd _ m.2.2.1) hS, h.rp.turn t (hd _ m.2.2.2.1), h.ra.turn t (hd _ m.2.2.2.2.1), h.ri.turn t (hd _ m.2.2.2.2.2.1), h.re.turn t (hd _ m.2.2.2.2.2.2),
    fun y hy => no8_keep (h.n8 y hy) (t.block y (h.olds y hy) (hd y hy)), h.nd, h.lo_⟩
theorem RAt.below (h : RAt w lo x G R) (hb : Below w.heap.size w w') : RAt w' lo x G R := h.turn (S := []) (Turn.of_below hb) (by simp) (by simp)
theorem no8_set {y z p : Nat} {v : Value} (h : No8 w y) (hv : ∀ z, v ≠ .int .u8 z) : No8 (w.setCell ⟨z, p, none⟩ v) y := by
  rcases h with h | ⟨u, h1, h2⟩
  · left
    intro c t f e
    by_cases hyz : y = z
    · subst hyz
      cases hb : w.heap[y]? with
      | none => simp [World.setCell, Array.getElem?_modify, hb] at e
      | some o =>
        cases o with
        | cells cs t f => exact h _ _ _ hb
        | _ => simp [World.setCell, Array.getElem?_modify, hb] at e
    · rw [heap_setCell_other w ⟨z, p, none⟩ y v hyz] at e
      exact h _ _ _ e
  · right
    by_cases he : (⟨z, p, none⟩ : Addr) = ⟨y, 0, none⟩
    · rw [he]; exact ⟨v, World.cell?_setCell_same w _ _ h1, hv⟩
    · exact ⟨u, by rw [World.cell?_setCell_other w (a := ⟨z, p, none⟩) (b := ⟨y, 0, none⟩) (v := v) he]; exact h1, h2⟩
theorem RAt.ne (h : RAt w lo x G R) : x ≠ G.f ∧ x ≠ G.w ∧ x ≠ G.p ∧ x ≠ G.a ∧ x ≠ G.i ∧ x ≠ G.e ∧ G.f ≠ G.w ∧ G.f ≠ G.p ∧ G.f ≠ G.a ∧ G.f ≠ G.i ∧ G.f ≠ G.e ∧ G.w ≠ G.p ∧ G.w ≠ G.a ∧ G.w ≠ G.i ∧ G.w ≠ G.e ∧ G.p ≠ G.a ∧ G.p ≠ G.i ∧ G.p ≠ G.e ∧ G.a ≠ G.i ∧ G.a ≠ G.e ∧ G.i ≠ G.e := by
  have := h.nd
  simp only [rown, List.nodup_cons, List.mem_cons, List.not_mem_nil, or_false, not_or] at this
  obtain ⟨⟨a1, a2, a3, a4, a5, a6⟩, ⟨b1, b2, b3, b4, b5⟩, ⟨c1, c2, c3, c4⟩, ⟨d1, d2, d3⟩, ⟨e1, e2⟩, f1, _⟩ := this
  exact ⟨a1, a2, a3, a4, a5, a6, b1, b2, b3, b4, b5, c1, c2, c3, c4, d1, d2, d3, e1, e2, f1⟩
/-- one bool, or one row, of an array is set -/
theorem RAt.setF (h : RAt w lo x G R) (q : Nat) {r rc : Nat} {l : List Nat} (hl : Nums .u8 w (some ⟨r, 0, none⟩) 256 rc l) : RAt (w.setCell ⟨G.f, q, none⟩ (.slice (some ⟨r, 0, none⟩) 256 rc)) lo x G { R with F := updN R.F q l } := by
  obtain ⟨a1, a2, a3, a4, a5, a6, b1, b2, b3, b4, b5, c1, c2, c3, c4, d1, d2, d3, e1, e2, f1⟩ := h.ne
  have T := Turn.setCell w G.f q (.slice (some ⟨r, 0, none⟩) 256 rc) (S := [G.f]) (by simp)
  obtain ⟨cf, cw, hc⟩ := h.cells
  have hS : ∀ y ∈ [G.f], No8 w y := fun y hy => by rw [List.mem_singleton.1 hy]; exact h.n8 _ (by simp)
  exact ⟨h.b1, h.b2, ⟨cf, cw, T.cells hc (by simpa using a1)⟩, h.rf.set q hl (h.n8 _ (by simp)), h.rw.turn T (by simpa using b1.symm) hS, h.rp.turn T (by simpa using b2.symm), h.ra.turn T (by simpa using b3.symm), h.ri.turn T (by simpa using b4.symm), h.re.turn T (by simpa using b5.symm), fun y hy => no8_set (h.n8 y hy) (by simp), h.nd, h.lo_⟩
theorem RAt.setW (h : RAt w lo x G R) (q : Nat) {r rc : Nat} {l : List Nat} (hl : Nums .u8 w (some ⟨r, 0, none⟩) 256 rc l) : RAt (w.setCell ⟨G.w, q, none⟩ (.slice (some ⟨r, 0, none⟩) 256 rc)) lo x G { R with W := updN R.W q l } := by
  obtain ⟨a1, a2, a3, a4, a5, a6, b1, b2, b3, b4, b5, c1, c2, c3, c4, d1, d2, d3, e1, e2, f1⟩ := h.ne
  have T := Turn.setCell w G.w q (.slice (some ⟨r, 0, none⟩) 256 rc) (S := [G.w]) (by simp)
  obtain ⟨cf, cw, hc⟩ := h.cells
  have hS : ∀ y ∈ [G.w], No8 w y := fun y hy => by rw [List.mem_singleton.1 hy]; exact h.n8 _ (by simp)
  exact ⟨h.b1, h.b2, ⟨cf, cw, T.cells hc (by simpa using a2)⟩, h.rf.turn T (by simpa using b1) hS, h.rw.set q hl (h.n8 _ (by simp)), h.rp.turn T (by simpa using c1.symm), h.ra.turn T (by simpa using c2.symm), h.ri.turn T (by simpa using c3.symm), h.re.turn T (by simpa using c4.symm), fun y hy => no8_set (h.n8 y hy) (by simp), h.nd, h.lo_⟩
theorem RAt.setP (h : RAt w lo x G R) (q : Nat) (v : Bool) : RAt (w.setCell ⟨G.p, q, none⟩ (.bool v)) lo x G { R with P := updN R.P q v } := by
  obtain ⟨a1, a2, a3, a4, a5, a6, b1, b2, b3, b4, b5, c1, c2, c3, c4, d1, d2, d3, e1, e2, f1⟩ := h.ne
  have T := Turn.setCell w G.p q (.bool v) (S := [G.p]) (by simp)
  obtain ⟨cf, cw, hc⟩ := h.cells
  have hS : ∀ y ∈ [G.p], No8 w y := fun y hy => by rw [List.mem_singleton.1 hy]; exact h.n8 _ (by simp)
  exact ⟨h.b1, h.b2, ⟨cf, cw, T.cells hc (by simpa using a3)⟩, h.rf.turn T (by simpa using b2) hS, h.rw.turn T (by simpa using c1) hS, h.rp.set q v, h.ra.turn T (by simpa using d1.symm), h.ri.turn T (by simpa using d2.symm), h.re.turn T (by simpa using d3.symm), fun y hy => no8_set (h.n8 y hy) (by simp), h.nd, h.lo_⟩
theorem RAt.setA (h : RAt w lo x G R) (q : Nat) (v : Bool) : RAt (w.setCell ⟨G.a, q, none⟩ (.bool v)) lo x G { R with A := updN R.A q v } := by
  obtain ⟨a1, a2, a3, a4, a5, a6, b1, b2, b3, b4, b5, c1, c2, c3, c4, d1, d2, d3, e1, e2, f1⟩ := h.ne
  have T := Turn.setCell w G.a q (.bool v) (S := [G.a]) (by simp)
  obtain ⟨cf, cw, hc⟩ := h.cells
  have hS : ∀ y ∈ [G.a], No8 w y := fun y hy => by rw [List.mem_singleton.1 hy]; exact h.n8 _ (by simp)
  exact ⟨h.b1, h.b2, ⟨cf, cw, T.cells hc (by simpa using a4)⟩, h.rf.turn T (by simpa using b3) hS, h.rw.turn T (by simpa using c2) hS, h.rp.turn T (by simpa using d1), h.ra.set q v, h.ri.turn T (by simpa using e1.symm), h.re.turn T (by simpa using e2.symm), fun y hy => no8_set (h.n8 y hy) (by simp), h.nd, h.lo_⟩
theorem RAt.setI (h : RAt w lo x G R) (q : Nat) (v : Bool) : RAt (w.setCell ⟨G.i, q, none⟩ (.bool v)) lo x G { R with I := updN R.I q v } := by
  obtain ⟨a1, a2, a3, a4, a5, a6, b1, b2, b3, b4, b5, c1, c2, c3, c4, d1, d2, d3, e1, e2, f1⟩ := h.ne
  have T := Turn.setCell w G.i q (.bool v) (S := [G.i]) (by simp)
  obtain ⟨cf, cw, hc⟩ := h.cells
  have hS : ∀ y ∈ [G.i], No8 w y := fun y hy => by rw [List.mem_singleton.1 hy]; exact h.n8 _ (by simp)
  exact ⟨h.b1, h.b2, ⟨cf, cw, T.cells hc (by simpa using a5)⟩, h.rf.turn T (by simpa using b4) hS, h.rw.turn T (by simpa using c3) hS, h.rp.turn T (by simpa using d2), h.ra.turn T (by simpa using e1), h.ri.set q v, h.re.turn T (by simpa using f1.symm), fun y hy => no8_set (h.n8 y hy) (by simp), h.nd, h.lo_⟩
theorem RAt.setE (h : RAt w lo x G R) (q : Nat) (v : Bool) : RAt (w.setCell ⟨G.e, q, none⟩ (.bool v)) lo x G { R with E := updN R.E q v } := by
  obtain ⟨a1, a2, a3, a4, a5, a6, b1, b2, b3, b4, b5, c1, c2, c3, c4, d1, d2, d3, e1, e2, f1⟩ := h.ne
  have T := Turn.setCell w G.e q (.bool v) (S := [G.e]) (by simp)
  obtain ⟨cf, cw, hc⟩ := h.cells
  have hS : ∀ y ∈ [G.e], No8 w y := fun y hy => by rw [List.mem_singleton.1 hy]; exact h.n8 _ (by simp)
  exact ⟨h.b1, h.b2, ⟨cf, cw, T.cells hc (by simpa using a6)⟩, h.rf.turn T (by simpa using b5) hS, h.rw.turn T (by simpa using c4) hS, h.rp.turn T (by simpa using d3), h.ra.turn T (by simpa using e2), h.ri.turn T (by simpa using f1), h.re.set q v, fun y hy => no8_set (h.n8 y hy) (by simp), h.nd, h.lo_⟩
/-- a number, or the switch, of the device itself -/
theorem RAt.recell (h : RAt w lo x G R) (t : Turn [x] w w') (c f : Nat) (dn : Bool) (n8 : No8 w' x) (hc : ∀ cf cw, w.heap[x]? = some (.cells (rcells G R cf cw) 95) → w'.heap[x]? = some (.cells (rcells G { R with calls := c, arm := f, down := dn } cf cw) 95)) : RAt w' lo x G { R with calls := c, arm := f, down := dn } := by
  obtain ⟨a1, a2, a3, a4, a5, a6, _⟩ := h.ne
  obtain ⟨cf, cw, e⟩ := h.cells
  have hS : ∀ y ∈ [x], No8 w y := fun y hy => by rw [List.mem_singleton.1 hy]; exact h.n8 _ (by simp)
  refine ⟨h.b1, h.b2, ⟨cf, cw, hc cf cw e⟩, h.rf.turn t (by simpa using a1.symm) hS, h.rw.turn t (by simpa using a2.symm) hS, h.rp.turn t (by simpa using a3.symm), h.ra.turn t (by simpa using a4.symm), h.ri.turn t (by simpa using a5.symm), h.re.turn t (by simpa using a6.symm), fun y hy => ?_, h.nd, h.lo_⟩
  by_cases hx : y = x
  · rw [hx]; exact n8
  · exact no8_keep (h.n8 y hy) (t.block y (h.olds y hy) (by simpa using hx))
theorem RAt.setCalls (h : RAt w lo x G R) (c : Nat) : RAt (w.setCell ⟨x, 6, none⟩ (.int .i64 c)) lo x G { R with calls := c } :=
  h.recell (Turn.setCell w x 6 _ (by simp)) c R.arm R.down (no8_set (h.n8 x (by simp)) (by simp)) fun cf cw e => by simp [World.setCell, Array.getElem?_modify, e]
theorem RAt.setArm (h : RAt w lo x G R) (f : Nat) : RAt (w.setCell ⟨x, 7, none⟩ (.int .i64 f)) lo x G { R with arm := f } :=
  h.recell (Turn.setCell w x 7 _ (by simp)) R.calls f R.down (no8_set (h.n8 x (by simp)) (by simp)) fun cf cw e => by simp [World.setCell, Array.getElem?_modify, e]
theorem RAt.setDown (h : RAt w lo x G R) (v : Bool) : RAt (w.setCell ⟨x, 8, none⟩ (.bool v)) lo x G { R with down := v } :=
  h.recell (Turn.setCell w x 8 _ (by simp)) R.calls R.arm v (no8_set (h.n8 x (by simp)) (by simp)) fun cf cw e => by simp [World.setCell, Array.getElem?_modify, e]
end Go.Proofs.YtagbnacffiagcaaDoor.RDevW

namespace Go.Proofs.YtagbnacffiagcaaDoor.MapsW
open Go Go.RowKit Go.Maps Go.Sort Go.Shelf Go.Proofs Go.Proofs.YtagbnacffiagcaaDoor.Mem
set_option linter.unusedVariables false
set_option maxRecDepth 100000

theorem keys_w (mb : Option Nat) (w : World) : Calls Tryd.prog 99 #[.map mb] w fun e w' => e = .returned (.func (.func 120) #[] #[.pointer (some ⟨w.heap.size, 0, none⟩)]) ∧ w' = w.alloc (.cells #[.map mb] 120) :=
  (callsIn_wide (n := 5)).1 (AnyZI.keys_in Tryd.keysA Fence.wide 5 trivial rfl mb w)
theorem sorts_in (m : Nat) : AnyZI.SortsIn Tryd.prog Tryd.sortedA_ren Fence.wide m :=
  ⟨fun blk off cap ss W hH hblk hsz => callsIn_wide.2 (AnyM.slices_Sort_int Tryd.sortA blk off cap ss W hH hblk hsz),
   fun p cap W => callsIn_wide.2 (AnyM.slices_Sort_int_none Tryd.sortA p cap W)⟩
theorem sorted_w {H : Type} (b nn Bm : Nat) (D0 : DataW H) (R : Value → Option (DataW H × List MemPlace)) (w : World) (hBm : Bm < w.heap.size) (hm : w.cell? ⟨Bm, 0, none⟩ = some (.map (some b))) (hown : w.ownsMap Tryd.prog 3 R b nn D0) (hmax : Maps.size D0 ≤ 1000000) :
    Calls Tryd.prog 98 #[.func (.func 120) #[] #[.pointer (some ⟨Bm, 0, none⟩)]] w fun e w' => ∃ (v : Value) (ss : List Int), e = .returned v ∧ ss.Perm (intKeys D0) ∧
      w'.ownsRow w.heap.size 3 1 v ss.length ((ss.mergeSort (fun x y => decide (x ≤ y))).map encZ) ∧ (v = .slice none 0 0 ↔ ss = []) ∧ Below w.heap.size w w' := by
  have hseq : SeqGives Fence.wide 2 Tryd.prog 120 #[.pointer (some ⟨Bm, 0, none⟩)] encZ (fun ss => ss.Perm (intKeys D0)) (Maps.size D0) w :=
    AnyZI.keys_gives (ρ := Tryd.keysA_ren) { Tryd.keysA with } Fence.wide _ trivial rfl (by omega) Bm b nn D0 _ hBm hm hown
  have cS := AnyZI.sorted_in Tryd.sortedA Fence.wide 5 trivial trivial trivial trivial rfl (by omega) (sorts_in _) (enters_of Tryd.func119 (by kernel_rfl) rfl) 120 #[.pointer (some ⟨Bm, 0, none⟩)] trivial (enters_of Tryd.func120 (by kernel_rfl) rfl) _ _ (by unfold maxLen; omega) (by omega) _ hseq
  exact callsIn_wide.1 cS
/-- what a map of rows has keys at: rising -/
structure Keys (F : Int → Option (List Nat)) (ks : List Int) : Prop where
  rise : ks.Pairwise (· < ·)
  mem : ∀ i, i ∈ ks ↔ (F i).isSome = true
  fit : ∀ i ∈ ks, Fits i
theorem intKeys_is {H : Type} {w : World} {b n : Nat} {D : DataW H} {R : Value → Option (DataW H × List MemPlace)} (h : w.ownsMap Tryd.prog 3 R b n D) : (intKeys D).Nodup ∧ ∀ x, x ∈ intKeys D ↔ Maps.has D (.int .i64 x) = true := by
  obtain ⟨es, rfl, hpw, _⟩ := h.entries law
  obtain ⟨es', hD', hko⟩ := h.keysOf
  obtain rfl : es = es' := by simpa using hD'
  have hk : ∀ p ∈ es, ∃ x, p.1 = .int .i64 x := fun p hp => by
    obtain ⟨v, hv⟩ := hko p hp
    obtain ⟨x, _, hx, _⟩ := Maps.keyOf_i64 Tryd.underlying3 hv
    exact ⟨x, hx⟩
  constructor
  · show (es.map fun p => Go.intOf p.1).Nodup
    refine List.pairwise_map.2 (hpw.imp_of_mem fun {p q} hp' hq' hne e => hne ?_)
    obtain ⟨a, ha⟩ := hk p hp'
    obtain ⟨b, hb⟩ := hk q hq'
    rw [ha, hb] at e ⊢
    exact congrArg _ e
  · intro x
    rw [has_eq, List.any_eq_true]
    show x ∈ es.map (fun p => Go.intOf p.1) ↔ _
    rw [List.mem_map]
    constructor
    · rintro ⟨p, hp', rfl⟩
      obtain ⟨a, ha⟩ := hk p hp'
      exact ⟨p, hp', by rw [ha]; simp [Lit.sameKey, Go.intOf]⟩
    · rintro ⟨p, hp', hs⟩
      obtain ⟨a, ha⟩ := hk p hp'
      rw [ha] at hs
      exact ⟨p, hp', by rw [ha]; simpa [Lit.sameKey, Go.intOf] using hs⟩
/-- slices.Sorted of a map's keys -/
theorem keys_sorted (b n Bm base np : Nat) (F : Int → Option (List Nat)) (w : World) (hBm : Bm < w.heap.size) (hm : w.cell? ⟨Bm, 0, none⟩ = some (.map (some b))) (h : RowMap w base b n F np) (hnp : np ≤ 1000000) :
    Calls Tryd.prog 98 #[.func (.func 120) #[] #[.pointer (some ⟨Bm, 0, none⟩)]] w fun e w' => ∃ (v : Value) (ks : List Int), e = .returned v ∧ Keys F ks ∧ ks.length = np ∧
      w'.ownsRow w.heap.size 3 1 v ks.length (ks.map fun z => .int .i64 z) ∧ Below w.heap.size w w' := by
  obtain ⟨D, h1, h2, h3⟩ := h
  obtain ⟨k1, k2⟩ := intKeys_is h1
  refine (sorted_w b n Bm D rowR w hBm hm h1 (by omega)).mono ?_
  rintro e w' ⟨v, ss, rfl, hp, ho, _, hb⟩
  have hle : ∀ a b c : Int, decide (a ≤ b) = true → decide (b ≤ c) = true → decide (a ≤ c) = true := fun a b c x y => by
    simp only [decide_eq_true_eq] at *; omega
  have hto : ∀ a b : Int, (decide (a ≤ b) || decide (b ≤ a)) = true := fun a b => by
    simp only [Bool.or_eq_true, decide_eq_true_eq]; omega
  have hs := List.pairwise_mergeSort hle hto ss
  have hpm := List.mergeSort_perm ss (fun x y => decide (x ≤ y))
  have hnd : (ss.mergeSort fun x y => decide (x ≤ y)).Nodup := (hpm.trans hp).nodup_iff.2 k1
  refine ⟨v, ss.mergeSort (fun x y => decide (x ≤ y)), rfl, ⟨?_, fun i => ?_, fun i hi => int_of (intKeys_wf h1 Tryd.underlying3 i ((hpm.trans hp).mem_iff.1 hi))⟩, ?_, ?_, hb⟩
  · refine (hs.and hnd).imp fun {a b} q => ?_
    have := q.1
    simp only [decide_eq_true_eq] at this
    have := q.2
    omega
  · rw [(hpm.trans hp).mem_iff, k2]
    have := h3 i
    cases hF : F i with
    | none => rw [hF] at this; rw [this]; rfl
    | some l => rw [hF] at this; rw [this.1]; rfl
  · rw [hpm.length_eq, hp.length_eq, ← h2]
    obtain ⟨es, hD, _⟩ := h1.tidy law
    rw [hD]; simp [intKeys, Maps.size]
  · rw [hpm.length_eq]
    exact ho
end Go.Proofs.YtagbnacffiagcaaDoor.MapsW

namespace Go.Proofs.YtagbnacffiagcaaDoor.DevG
open Go Go.RowKit Go.Maps Go.Proofs.YtagbnacffiagcaaDoor.Mem Go.Proofs.YtagbnacffiagcaaDoor.MapsW Go.Proofs.YtagbnacffiagcaaDoor.SeeW
set_option linter.unusedVariables false
set_option maxRecDepth 100000

/-- what a device has behind a flush -/
def Dv.flush (D : Dv) : Dv :=
  { D with fl := fun i => if (D.pe i).isSome then D.pe i else D.fl i, fa := fun i => if (D.pe i).isSome then false else D.fa i, fi := fun i => if (D.pe i).isSome then false else D.fi i, pe := fun _ => none, np := 0, calls := D.calls + 1 }
/-- .. under way: what is still to come is as it was -/
def Dv.mid (D : Dv) (left : Lit → Bool) : Dv :=
  { D with fl := fun i => if (D.pe i).isSome && !left (.int .i64 i) then D.pe i else D.fl i, fa := fun i => if (D.pe i).isSome && !left (.int .i64 i) then false else D.fa i, fi := fun i => if (D.pe i).isSome && !left (.int .i64 i) then false else D.fi i }
theorem mid_start (D : Dv) (left : Lit → Bool) (h : ∀ i, (D.pe i).isSome = true → left (.int .i64 i) = true) : D.mid left = D := by
  have : ∀ i, ((D.pe i).isSome && !left (.int .i64 i)) = false := by
    intro i
    cases hp : (D.pe i).isSome
    · rfl
    · rw [h i hp]; rfl
  unfold Dv.mid
  simp [this]
theorem same_int (i j : Int) : (Lit.int .i64 i).sameKey (.int .i64 j) = decide (i = j) := by
  by_cases h : i = j
  · subst h; rw [WideAt.sameKey_self (islit i)]; simp
  · rw [sameKey_ne (litne h)]; simp [h]
theorem mid_step (D : Dv) (left : Lit → Bool) (x : Int) (l : List Nat) (hp : D.pe x = some l) : (D.mid left).lay x l = D.mid (fun z => left z && !z.sameKey (.int .i64 x)) := by
  have hs : (D.pe x).isSome = true := by rw [hp]; rfl
  unfold Dv.lay Dv.mid
  simp only [same_int]
  congr 1
  · funext j
    by_cases hj : j = x
    · subst hj; rw [upd_same, hs]; simp [hp]
    · rw [upd_other _ _ hj]; simp [hj]
  · funext j
    by_cases hj : j = x
    · subst hj; rw [upd_same, hs]; simp
    · rw [upd_other _ _ hj]; simp [hj]
  · funext j
    by_cases hj : j = x
    · subst hj; rw [upd_same, hs]; simp
    · rw [upd_other _ _ hj]; simp [hj]

theorem ranges_of {w w' : World} {b r n : Nat} {D : DataW Unit} {left : Lit → Bool} {cnt : Nat} (h : w.ranges Tryd.prog 3 rowR b r n D left cnt) (e1 : w'.heap[b]? = w.heap[b]?) (e2 : w'.heap[r]? = w.heap[r]?) : w'.ranges Tryd.prog 3 rowR b r n D left cnt := by
  obtain ⟨es, clock, since, seen, c0, h1, h2, h3, h4, h5, h6⟩ := h
  exact ⟨es, clock, since, seen, c0, e1.trans h1, h2, h3, h4, e2.trans h5, h6⟩
theorem ranges_iter {w : World} {b r n : Nat} {D : DataW Unit} {left : Lit → Bool} {cnt : Nat} (h : w.ranges Tryd.prog 3 rowR b r n D left cnt) : NoCells w r ∧ (∀ es ck, w.heap[r]? ≠ some (.map es ck)) ∧ r < w.heap.size := by
  obtain ⟨es, clock, since, seen, c0, h1, h2, h3, h4, h5, h6⟩ := h
  refine ⟨fun c t f e => ?_, fun es ck e => ?_, (Array.getElem?_eq_some_iff.1 h5).1⟩ <;> rw [h5] at e <;> cases e
/-- an element as it is met -/
def mkV : Option (Nat × Nat × Nat) → Value
  | none => .slice none 0 0
  | some (g, n, cap) => .slice (some ⟨g, 0, none⟩) n cap
theorem invV (v : Value) (y : DataW Unit × List MemPlace) (h : rowR v = some y) : ∃ c, v = mkV c := by
  unfold rowR at h
  split at h
  · exact ⟨none, rfl⟩
  · exact ⟨some (_, _, _), rfl⟩
  · cases h
theorem invK (k : Value) (kl : Lit) (h : keyOf Tryd.prog 3 k = some kl) : ∃ x : Int, k = .int .i64 x := by
  obtain ⟨x, rfl, _⟩ := Maps.keyOf_int_inv Tryd.underlying3 h
  exact ⟨x, rfl⟩

theorem Turn.of_none {S : List Nat} {a b : World} (h : a.grownBy b none) : Turn S a b := ⟨h.os, h.tape, h.output, h.size, fun k hk _ => h.block k hk (by simp)⟩
/-- another map of what is pending -/
theorem At.swapP {w : World} {lo d n p' : Nat} {m : Mp} {D : Dv} (h : At w lo d n m D) (hr : RowMap w 0 p' n (fun _ => none) 0) (hlo : lo ≤ p') (hp : p' ∉ m.list) :
    At (w.setCell ⟨d, 2, none⟩ (.map (some p'))) lo d n { m with p := p' } { D with pe := fun _ => none, np := 0 } := by
  have ht : Turn [d] w (w.setCell ⟨d, 2, none⟩ (.map (some p'))) := Turn.setCell w d 2 _ (by simp)
  obtain ⟨n1, n2, n3, n4, n5⟩ := h.ne
  obtain ⟨e1, e2, e3, e4, e5, e6, e7, e8, e9, e10⟩ := h.nd
  obtain ⟨k, hk⟩ := h.rf
  have hS : ∀ x ∈ [d], x < 0 ∨ NoCells w x ∨ ∃ v, w.cell? ⟨x, 0, none⟩ = some v ∧ ∀ z, v ≠ .int .u8 z := by
    intro x hx
    rw [List.mem_singleton.1 hx]
    exact .inr (.inr ⟨_, h.c.1, fun z e => by cases e⟩)
  have hpd : p' ≠ d := by
    obtain ⟨es, ck, hb⟩ := hr.block
    rintro rfl
    rw [h.cells] at hb
    cases hb
  simp [Mp.list] at hp
  obtain ⟨q1, q2, q3, q4, q5⟩ := hp
  refine ⟨?_, ⟨k, rows_turn hk ht (by simp; omega) hS⟩, rows_turn hr ht (by simp; omega) hS, bools_turn h.ba ht (by simp; omega), bools_turn h.bi ht (by simp; omega), sets_turn h.be ht (by simp; omega), ?_, h.lod, ?_⟩
  · have := h.cells
    simp [World.setCell, Array.getElem?_modify, this]
  · simp only [Mp.list, List.nodup_cons, List.mem_cons, List.not_mem_nil, or_false, not_or, not_false_eq_true, List.nodup_nil, and_true]
    exact ⟨⟨fun e => q1 e.symm, e2, e3, e4⟩, ⟨q3, q4, q5⟩, ⟨e8, e9⟩, e10⟩
  · intro x hx
    simp only [Mp.list, List.mem_cons, List.not_mem_nil, or_false] at hx
    rcases hx with rfl | rfl | rfl | rfl | rfl
    · exact h.lom _ (by simp [Mp.list])
    · exact hlo
    · exact h.lom _ (by simp [Mp.list])
    · exact h.lom _ (by simp [Mp.list])
    · exact h.lom _ (by simp [Mp.list])

/-- a flush: what is told, what the device has then -/
def Dv.flushT (D : Dv) : Option Nat × Dv := if D.tick.down then (some 5, D.tick) else (none, D.tick.flush)
set_option maxHeartbeats 3200000 in
theorem flush_ok (d lo n : Nat) (m : Mp) (D0 : Dv) (w : World) (h : At w lo d n m D0) (hn : n < 20000) (hp : D0.np < 20000) (hc : D0.calls < 1000000) (hz : D0.fuse ≤ 9223372036854775807) (hdn : D0.tick.down = false) :
    Calls Tryd.prog 15 #[ptr d] w fun e w' => e = .returned .nilIface ∧ ∃ p', w.heap.size ≤ p' ∧ At w' lo d (n + 3 * D0.np) { m with p := p' } D0.tick.flush ∧ Turn (own d m) w w' := by
  have hmm := @run_makeMap Tryd.prog
  have hmp : m.p ∈ m.list ∧ m.f ∈ m.list ∧ m.a ∈ m.list ∧ m.i ∈ m.list := by simp [Mp.list]
  have hnpe : D0.np = D0.tick.np := D0.tick_same.2.2.2.2.2.2.1.symm
  have hce : D0.calls = D0.tick.calls := D0.tick_same.2.2.2.2.2.2.2.2.1.symm
  rw [hnpe] at hp ⊢
  rw [hce] at hc
  clear hnpe hce
  obtain ⟨D, hDt⟩ : ∃ x, x = D0.tick := ⟨_, rfl⟩
  rw [← hDt] at hp hc hdn ⊢
  go_enter Tryd.func15, Tryd.ntmps15
  go_wp2_with fail
  refine (gone_w d lo n m D0 _ h hz).mono ?_
  rintro e w0 ⟨rfl, h0, t0⟩
  rw [← hDt] at h0 ⊢
  rw [hdn]
  have hs0 := t0.size
  have T0 := own1 (m := m) t0
  clear h hdn t0 hz hDt
  have h := h0
  obtain ⟨c0, c1, c2, c3, c4, c5, c6, c7, c8, f6, f2, f7, f8⟩ := h.c
  have hrp := h.rp
  obtain ⟨E, hE, hnp, hEi⟩ := hrp
  have hdl := h.dlt
  have hml : ∀ x ∈ m.list, x < w0.heap.size := fun x hx => by
    obtain ⟨es, ck, hb⟩ := h.maps x hx
    exact (Array.getElem?_eq_some_iff.1 hb).1
  go_wp2_with (at_range; refine wpList_range_own _ rfl _ 120 rfl 3 28 law Tryd.underlying120 rowR m.p n E rfl hE ?_; intro wq hrg0 hg0 hsq)
  go_frame
  have hE0 : ∀ i, (D.pe i).isSome = true → has E (.int .i64 i) = true := by
    intro i hi
    have := hEi i
    cases hF : D.pe i with
    | none => rw [hF] at hi; cases hi
    | some l => rw [hF] at this; exact this.1
  have H := hid h
  clear c0 c1 c2 c3 c4 c5 c6 c7 c8 f6 f2 f7 f8
  go_loopw [3] (fun _ wr => ∃ (left : Lit → Bool) (cnt : Nat), wr.ranges Tryd.prog 3 rowR m.p w0.heap.size n E left cnt ∧ At wr lo d (n + 3 * (D.np - cnt)) m (D.mid left) ∧ cnt ≤ D.np ∧ Turn (own d m) w0 wr ∧ w0.heap.size < wr.heap.size)
    (fun _ wr => wr.rangeLeft m.p w0.heap.size)
  case atStart =>
    refine ⟨_, _, hrg0, ?_, by omega, Turn.of_none hg0, by omega⟩
    rw [mid_start D _ hE0]
    exact (h.turn (S := []) (Turn.of_none hg0) (by simp) (by simp) (by simp)).mono (by omega) (Nat.le_refl _)
  case round =>
    clear hrg0 hg0 hsq
    obtain ⟨left, cnt, hrg, hat, hcnt, hT, hsz⟩ := hrel
    go_wp2_with (at_next; refine wpList_next_ranges _ rfl _ rfl 3 law rowR (Value.int .i64) mkV invK invV m.p w0.heap.size n _ _ _ rfl hrg ?_ ?_)
    · intro h0 hl0
      have ha := hat.below ((Below.refl _ wr).alloc (Nat.le_refl _) (.map #[] 0))
      obtain ⟨c0, c1, c2, c3, c4, c5, c6, c7, c8, f6, f2, f7, f8⟩ := ha.c
      simp only [Dv.mid] at c0 c6
      have hr0 := RowMap.made wr 0
      have hsw := ha.swapP (hr0.mono (n' := n + 3 * (D.np - cnt)) (by omega) (Nat.le_refl _)) (by have := hat.dlt; have := hat.lod; omega) (fun hm => by have := hml _ hm; omega)
      have htk := hsw.count (D.calls + 1)
      rw [show ((D.calls + 1 : Nat) : Int) = (D.calls : Int) + 1 by omega] at htk
      have hT2 : Turn (own d m) w0 (((wr.alloc (.map #[] 0)).setCell ⟨d, 2, none⟩ (.map (some wr.heap.size))).setCell ⟨d, 6, none⟩ (.int .i64 ((D.calls : Int) + 1))) :=
        ((hT.then (Turn.of_below ((Below.refl _ wr).alloc (Nat.le_refl _) _))).then (Turn.setCell _ _ _ _ (mem_own d m).1)).then (Turn.setCell _ _ _ _ (mem_own d m).1)
      have HK := hid htk
      clear htk hsw hr0 ha hat hrg hE hEi hE0
      go_wp2
      go_ret
      refine ⟨rfl, wr.heap.size, by omega, ?_, T0.then hT2⟩
      have e1 : { (D.mid left) with pe := fun _ => none, np := 0, calls := D.calls + 1 } = D.flush := by
        unfold Dv.mid Dv.flush
        simp [hl0]
      rw [← e1]
      exact HK.out.mono (by omega) (Nat.le_refl _)
    · intro x c kl ya yb w1 cnt1 hkey hlx hR hat1 hrg1 hlt hg1 hs1 hen
      obtain ⟨x', ex, rfl, hwx⟩ := Maps.keyOf_int_inv Tryd.underlying3 hkey
      cases ex
      have hfx : Fits x := int_of hwx
      obtain ⟨ri1, ri2, ri3⟩ := ranges_iter hrg
      have hrm : w0.heap.size ∉ m.list := fun hm => absurd (hml _ hm) (by omega)
      have h1 : At w1 lo d (n + 3 * (D.np - cnt)) m (D.mid left) := hat.turn (S := [w0.heap.size]) (Turn.of_grown hg1 (by simp)) (by simp; omega) (fun z hz => by simp; rintro rfl; exact hrm hz) (fun z hz => by rw [List.mem_singleton.1 hz]; exact .inl ri1)
      have hT1 : Turn (own d m) w0 w1 := hT.trans (Turn.of_grown (S := [w0.heap.size]) hg1 (by simp)) (fun z hz => by rw [List.mem_singleton.1 hz]; exact .inr (Nat.le_refl _))
      have hx := hEi x
      cases hF : D.pe x with
      | none =>
        exfalso
        rw [hF] at hx
        have e1 := hat1 .nil
        have e2 := hat1 (.agg [])
        rw [atKey_of_not_has hx] at e1 e2
        rw [← e1] at e2
        cases e2
      | some l =>
        rw [hF] at hx
        obtain ⟨_, g, cap, b1, b2, b3⟩ := hx
        have ey : ya = rowd g 256 cap := (hat1 .nil).symm.trans (b1 .nil)
        have hc1 : mkV c = .slice (some ⟨g, 0, none⟩) 256 cap := rowR_row (ps := yb) (by rw [hR, ← ey])
        obtain ⟨cc, tt, ff, hcc⟩ := nums_cells b2 (by decide)
        have hn1 := nums_of_cells b2 (hT1.block g (Array.getElem?_eq_some_iff.1 hcc).1 (h.out hcc (h.nerow b2)))
        rw [hc1] at hen ⊢
        have hM := mid_step D left x l hF
        clear hat1 hR b1 b2 ey hkey
        go_wp2_with fail
        refine (lay_w d lo _ m _ x g cap l _ h1 hfx hn1 (by omega) (by omega)).mono ?_
        rintro e w2 ⟨rfl, h2, t2⟩
        rw [hM] at h2
        have z1 := t2.size
        have rr := ranges_of hrg1 (t2.block m.p (by have := hml _ hmp.1; omega) (by
          obtain ⟨q1, q2, q3, q4, q5, q6, q7, q8, q9, q10⟩ := h.nd
          simp
          exact ⟨fun e => q1 e.symm, q5, q6⟩)) (t2.block w0.heap.size (by omega) (by
          simp
          exact ⟨fun e => by have := hml _ hmp.2.1; omega, fun e => by have := hml _ hmp.2.2.1; omega, fun e => by have := hml _ hmp.2.2.2; omega⟩))
        have t3 : Turn (own d m) w0 w2 := hT1.then (t2.mono (by simp [own, Mp.list]))
        go_wp2_with fail
        go_roundw
        case rel => exact ⟨_, cnt1, rr, h2.mono (by omega) (Nat.le_refl _), by omega, t3, by omega⟩
        case measure => rw [rr.left_eq, hrg.left_eq]; exact hlt
theorem flush_w (bs : List Addr) (d lo n : Nat) (m : Mp) (D : Dv) (w : World) (h : At w lo d n m D) (hB : Ev w lo bs five) (hn : n < 20000) (hp : D.np < 20000) (hc : D.calls < 1000000) (hz : D.fuse ≤ 9223372036854775807) :
    Calls Tryd.prog 15 #[ptr d] w fun e w' => (∃ v, Says bs D.flushT.1 v ∧ e = .returned v) ∧ ∃ p', (p' = m.p ∨ w.heap.size ≤ p') ∧ At w' lo d (n + 3 * D.np) { m with p := p' } D.flushT.2 ∧ Turn (own d m) w w' := by
  unfold Dv.flushT
  by_cases h1 : D.tick.down = true
  · rw [if_pos h1]
    obtain ⟨aF, haF, hAF⟩ := hB.get 5 _ (by decide) rfl
    go_enter Tryd.func15, Tryd.ntmps15
    go_wp2_with fail
    refine (gone_w d lo n m D _ h hz).mono ?_
    rintro e w0 ⟨rfl, h0, t0⟩
    rw [h1]
    have hA1 := ((hB.turn t0 (fun x hx => by rw [List.mem_singleton.1 hx]; exact h.lod)).get 5 _ (by decide) rfl)
    obtain ⟨a', ha', hA1, _⟩ := hA1
    obtain rfl := Option.some.inj (ha'.symm.trans haF)
    go_wp2
    go_ret
    exact ⟨⟨_, ⟨_, haF, rfl⟩, rfl⟩, m.p, .inl rfl, h0.mono (by omega) (Nat.le_refl _), own1 t0⟩
  · rw [if_neg h1]
    refine (flush_ok d lo n m D w h hn hp hc hz (by simpa using h1)).mono ?_
    rintro e w' ⟨rfl, p', h2, h3, h4⟩
    exact ⟨⟨_, rfl, rfl⟩, p', .inr h2, h3, h4⟩
end Go.Proofs.YtagbnacffiagcaaDoor.DevG

namespace Go.Proofs.YtagbnacffiagcaaDoor.Ints
open Go Go.RowKit Go.Proofs.YtagbnacffiagcaaDoor.Mem
set_option linter.unusedVariables false
set_option maxRecDepth 100000

def ints (zs : List Int) : List Value := zs.map fun z => .int .i64 z
/-- a slice of integers -/
def Is (w : World) (a : Option Addr) (n cap : Nat) (zs : List Int) : Prop := Row w 1 a n cap (ints zs)
theorem Is.below {w w' : World} {a : Option Addr} {n cap : Nat} {zs : List Int} (h : Is w a n cap zs) (hb : Below w.heap.size w w') : Is w' a n cap zs := Row.below h hb
theorem Is.len {w : World} {a : Option Addr} {n cap : Nat} {zs : List Int} (h : Is w a n cap zs) : zs.length = n := by
  have := h.1; simp [ints] at this; omega
theorem Is.bound {w : World} {a : Option Addr} {n cap : Nat} {zs : List Int} (h : Is w a n cap zs) : n ≤ cap ∧ cap ≤ 9223372036854775807 := by
  have := h.2.2.1; unfold maxLen at this; exact ⟨h.2.1, by omega⟩
theorem Is.at {w : World} {a : Option Addr} {n cap : Nat} {zs : List Int} (h : Is w a n cap zs) {j : Nat} (hj : j < zs.length) :
    ∃ b off, a = some ⟨b, off, none⟩ ∧ w.cell? ⟨b, off + j, none⟩ = some (.int .i64 zs[j]) :=
  h.2.2.2.2 j _ (by simp [ints, hj])
/-- as the row's datum gives them -/
theorem is_of {w : World} {a : Option Addr} {len cap : Nat} {zs : List Int} (h : IsRow .i64 w a len cap zs) :
    ∃ l : List Int, Is w a len cap l ∧ ∀ x ∈ l, (Lit.int .i64 x).wf = true := by
  rcases h with ⟨rfl, rfl, rfl, rfl⟩ | ⟨x, rfl, hl, hm, hz, hc, hw⟩
  · exact ⟨[], ⟨rfl, Nat.le_refl _, Nat.zero_le _, fun _ => rfl, fun j u h => by simp [ints] at h⟩, by simp⟩
  · refine ⟨zs.take len, ⟨?_, hl, hm, fun h => by simp at h, fun j u hj => ?_⟩, ?_⟩
    · simp [ints]; omega
    · have hjl : j < len := by
        have := (List.getElem?_eq_some_iff.1 hj).1
        simp [ints] at this; omega
      have h1 := hc j (by omega)
      obtain ⟨b, off, spot⟩ := x
      have hs : spot = none := by
        have h0 := hc 0 (by omega)
        simpa [Addr.add] using World.cell?_spot h0
      subst hs
      refine ⟨b, off, rfl, ?_⟩
      rw [Addr.add_lit] at h1
      rw [h1]
      have hjz : j < zs.length := by omega
      have hu : u = .int .i64 (zs[j]) := by
        have h2 : (ints (zs.take len))[j]? = some (.int .i64 (zs[j])) := by
          simp [ints, hjl, hjz]
        rw [h2] at hj
        rw [← Option.some.inj hj]
      rw [hu, List.getD_eq_getElem?_getD, List.getElem?_eq_getElem hjz]
      rfl
    · intro y hy
      exact hw y (List.mem_of_mem_take hy)

theorem mem_take_succ {zs : List Int} {k : Nat} (h : k < zs.length) (x : Int) : x ∈ zs.take (k + 1) ↔ x ∈ zs.take k ∨ x = zs[k] := by
  rw [List.take_succ_eq_append_getElem h, List.mem_append, List.mem_singleton]
end Go.Proofs.YtagbnacffiagcaaDoor.Ints
