/- A device in memory (package dev), whatever it is: armed, down. -/
import Derived.Test.YtagbnacffiagcaaDoorGMaps
import Derived.Test.YtagbnacffiagcaaDoorSeeWalk
import Derived.Deep.DeepMust
import Derived.BigQuiet
namespace Go.Proofs.YtagbnacffiagcaaDoor.DevG
open Go Go.RowKit Go.Maps Go.Proofs.YtagbnacffiagcaaDoor.Mem Go.Proofs.YtagbnacffiagcaaDoor.MapsW
set_option linter.unusedVariables false
set_option maxRecDepth 100000

/-- what a call says of an error: none, or the k-th of the list -/
def Says (bs : List Addr) (r : Option Nat) (v : Value) : Prop := match r with
  | none => v = .nilIface
  | some k => ∃ a, bs[k]? = some a ∧ v = SeeW.ev a
/-- what is written alone: the blocks S -/
structure Turn (S : List Nat) (w w' : World) : Prop where
  os : w'.os = w.os
  tape : w'.tape = w.tape
  output : w'.output = w.output
  size : w.heap.size ≤ w'.heap.size
  block : ∀ k, k < w.heap.size → k ∉ S → w'.heap[k]? = w.heap[k]?
theorem Turn.refl (S : List Nat) (w : World) : Turn S w w := ⟨rfl, rfl, rfl, Nat.le_refl _, fun _ _ _ => rfl⟩
theorem Turn.trans {S S' : List Nat} {a b c : World} (h : Turn S a b) (k : Turn S' b c) (hS : ∀ x ∈ S', x ∈ S ∨ a.heap.size ≤ x) : Turn S a c :=
  ⟨k.os.trans h.os, k.tape.trans h.tape, k.output.trans h.output, Nat.le_trans h.size k.size, fun i hi hn =>
    (k.block i (Nat.lt_of_lt_of_le hi h.size) (fun hm => (hS i hm).elim hn (by omega))).trans (h.block i hi hn)⟩
theorem Turn.then {S : List Nat} {a b c : World} (h : Turn S a b) (k : Turn S b c) : Turn S a c := h.trans k fun x hx => .inl hx
theorem Turn.mono {S S' : List Nat} {a b : World} (h : Turn S a b) (hS : ∀ x ∈ S, x ∈ S') : Turn S' a b :=
  ⟨h.os, h.tape, h.output, h.size, fun k hk hn => h.block k hk fun hm => hn (hS k hm)⟩
theorem Turn.of_below {S : List Nat} {a b : World} (h : Below a.heap.size a b) : Turn S a b := ⟨h.os, h.tape, h.output, h.size, fun k hk _ => h.block k hk⟩
theorem Turn.of_grown {S : List Nat} {a b : World} {x : Nat} (h : a.grownBy b (some x)) (hx : x ∈ S) : Turn S a b :=
  ⟨h.os, h.tape, h.output, h.size, fun k hk hn => h.block k hk fun e => hn (Option.some.inj e ▸ hx)⟩
theorem Turn.below {S : List Nat} {a b : World} {lo : Nat} (h : Turn S a b) (hlo : lo ≤ a.heap.size) (hS : ∀ x ∈ S, lo ≤ x) : Below lo a b :=
  ⟨h.os, h.tape, h.output, h.size, fun k hk => h.block k (by omega) fun hm => by have := hS k hm; omega⟩
theorem Turn.setCell {S : List Nat} (w : World) (d j : Nat) (v : Value) (hd : d ∈ S) : Turn S w (w.setCell ⟨d, j, none⟩ v) :=
  ⟨rfl, rfl, rfl, by simp, fun k _ hn => heap_setCell_other w ⟨d, j, none⟩ k v fun e => hn (by rw [e]; exact hd)⟩
theorem Turn.cells {S : List Nat} {a b : World} (h : Turn S a b) {k : Nat} {o : Obj} (hk : a.heap[k]? = some o) (hn : k ∉ S) : b.heap[k]? = some o :=
  (h.block k (Array.getElem?_eq_some_iff.1 hk).1 hn).trans hk

/-- the errors I of api stand at bs, below lo, no two the same -/
structure Ev (w : World) (lo : Nat) (bs : List Addr) (I : List Nat) : Prop where
  at_ : ∀ i ∈ I, ∀ g, SeeW.gl[i]? = some g → ∃ a, bs[i]? = some a ∧ Err.At w g a ∧ g < lo ∧ a.block < lo
  inj : ∀ i ∈ I, ∀ j ∈ I, bs[i]? = bs[j]? → i = j
/-- a device's errors -/
abbrev five : List Nat := [1, 2, 4, 5, 6]
theorem Ev.sub {w : World} {lo : Nat} {bs : List Addr} {I I' : List Nat} (h : Ev w lo bs I) (hI : ∀ i ∈ I', i ∈ I) : Ev w lo bs I' :=
  ⟨fun i hi => h.at_ i (hI i hi), fun i hi j hj => h.inj i (hI i hi) j (hI j hj)⟩
theorem Ev.mono {w : World} {lo lo' : Nat} {bs : List Addr} {I : List Nat} (h : Ev w lo bs I) (hl : lo ≤ lo') : Ev w lo' bs I :=
  ⟨fun i hi g hg => let ⟨a, h1, h2, h3, h4⟩ := h.at_ i hi g hg; ⟨a, h1, h2, by omega, by omega⟩, h.inj⟩
theorem Ev.turn {S : List Nat} {w w' : World} {lo : Nat} {bs : List Addr} {I : List Nat} (h : Ev w lo bs I) (ht : Turn S w w') (hS : ∀ x ∈ S, lo ≤ x) : Ev w' lo bs I := by
  refine ⟨fun i hi g hg => ?_, h.inj⟩
  obtain ⟨a, h1, ⟨h2, c, t, h3⟩, h4, h5⟩ := h.at_ i hi g hg
  refine ⟨a, h1, ⟨?_, c, t, ?_⟩, h4, h5⟩
  · have hlt := World.block_lt_of_cell? w ⟨g, 0, none⟩ h2
    rw [World.cell?_of_block (w := w) (ht.block g hlt fun hm => by have := hS g hm; omega)]
    exact h2
  · rw [ht.block _ (Array.getElem?_eq_some_iff.1 h3).1 fun hm => by have := hS _ hm; omega]
    exact h3
theorem Ev.below {w w' : World} {lo : Nat} {bs : List Addr} {I : List Nat} (h : Ev w lo bs I) (hb : Below w.heap.size w w') : Ev w' lo bs I :=
  h.turn (S := []) (Turn.of_below hb) (by simp)
theorem Ev.get {w : World} {lo : Nat} {bs : List Addr} {I : List Nat} (h : Ev w lo bs I) (i g : Nat) (hi : i ∈ I) (hg : SeeW.gl[i]? = some g) : ∃ a, bs[i]? = some a ∧ Err.At w g a :=
  let ⟨a, h1, h2, _, _⟩ := h.at_ i hi g hg; ⟨a, h1, h2⟩
theorem Ev.of_all {w : World} {gs : List Nat} (hE : Err.All w gs) (I : List Nat) (hI : I.map (fun i => SeeW.gl[i]?) = gs.map some) (hn : I.Nodup) : ∃ bs, Ev w w.heap.size bs I := by
  obtain ⟨cs, h1, h2, h3⟩ := hE
  have hlen := congrArg List.length hI
  simp only [List.length_map] at hlen
  have hlt : ∀ i ∈ I, i < SeeW.gl.length := by
    intro i hi
    have := List.mem_map_of_mem (f := fun i => SeeW.gl[i]?) hi
    rw [hI] at this
    obtain ⟨g, _, hg⟩ := List.mem_map.1 this
    exact (List.getElem?_eq_some_iff.1 hg.symm).1
  have hidx : ∀ i ∈ I, I.idxOf i < cs.length := fun i hi => by have := List.idxOf_lt_length_of_mem hi; omega
  have hget : ∀ i ∈ I, ((List.range SeeW.gl.length).map fun i => (cs[I.idxOf i]?).getD ⟨0, 0, none⟩)[i]? = cs[I.idxOf i]? := by
    intro i hi
    rw [List.getElem?_map, List.getElem?_range (hlt i hi)]
    simp [List.getElem?_eq_getElem (hidx i hi)]
  refine ⟨(List.range SeeW.gl.length).map fun i => (cs[I.idxOf i]?).getD ⟨0, 0, none⟩, fun i hi g hg => ?_, fun i hi j hj e => ?_⟩
  · have hk : I[I.idxOf i]? = some i := by rw [List.getElem?_eq_getElem (List.idxOf_lt_length_of_mem hi), List.getElem_idxOf]
    have e := congrArg (fun z => z[I.idxOf i]?) hI
    simp only [List.getElem?_map, hk, Option.map_some] at e
    have hgs : gs[I.idxOf i]? = some g := by
      cases hx : gs[I.idxOf i]? with
      | none => rw [hx] at e; cases e
      | some y =>
        rw [hx] at e
        simp only [Option.map_some, Option.some.injEq] at e
        rw [hg] at e
        exact e.symm
    obtain ⟨a, ha, hA⟩ := h3 _ _ hgs
    exact ⟨a, (hget i hi).trans ha, hA, World.block_lt_of_cell? w ⟨g, 0, none⟩ hA.1, hA.lt⟩
  · rw [hget i hi, hget j hj] at e
    have h5 := (List.getElem?_inj (hidx i hi) h2).1 e
    have a := List.getElem_idxOf (List.idxOf_lt_length_of_mem hi)
    have b := List.getElem_idxOf (List.idxOf_lt_length_of_mem hj)
    rw [← a, ← b]
    simp only [h5]
/-- a device's maps -/
structure Mp where
  f : Nat
  p : Nat
  a : Nat
  i : Nat
  e : Nat
def Mp.list (m : Mp) : List Nat := [m.f, m.p, m.a, m.i, m.e]
/-- what a device holds -/
structure Dv where
  blocks : Nat
  fl : Int → Option (List Nat)
  pe : Int → Option (List Nat)
  fa : Int → Bool
  fi : Int → Bool
  ev : Int → Bool
  np : Nat
  ne : Nat
  calls : Nat
  fuse : Nat := 0
  down : Bool := false
abbrev cellsOf (m : Mp) (D : Dv) : Array Value := #[.int .i64 D.blocks, .map (some m.f), .map (some m.p), .map (some m.a), .map (some m.i), .map (some m.e), .int .i64 D.calls, .int .i64 D.fuse, .bool D.down]
/-- block d of w is a device: its blocks lie from lo on, its rows behind d; no map has more than n entries -/
structure At (w : World) (lo d n : Nat) (m : Mp) (D : Dv) : Prop where
  cells : w.heap[d]? = some (.cells (cellsOf m D) 123)
  rf : ∃ k, RowMap w 0 m.f n D.fl k
  rp : RowMap w 0 m.p n D.pe D.np
  ba : BoolMap w m.a n D.fa
  bi : BoolMap w m.i n D.fi
  be : SetMap w m.e n D.ev D.ne
  nodup : m.list.Nodup
  lod : lo ≤ d
  lom : ∀ x ∈ m.list, lo ≤ x
/-- the device's own blocks -/
abbrev own (d : Nat) (m : Mp) : List Nat := d :: m.list
theorem At.own_lo {w : World} {lo d n : Nat} {m : Mp} {D : Dv} (h : At w lo d n m D) : ∀ x ∈ own d m, lo ≤ x := by
  intro x hx
  rcases List.mem_cons.1 hx with rfl | hx
  · exact h.lod
  · exact h.lom x hx
/-- its maps are maps -/
theorem At.maps {w : World} {lo d n : Nat} {m : Mp} {D : Dv} (h : At w lo d n m D) : ∀ x ∈ m.list, ∃ es ck, w.heap[x]? = some (.map es ck) := by
  intro x hx
  simp only [Mp.list, List.mem_cons, List.not_mem_nil, or_false] at hx
  rcases hx with rfl | rfl | rfl | rfl | rfl
  · obtain ⟨k, hk⟩ := h.rf; exact hk.block
  · exact h.rp.block
  · exact h.ba.block
  · exact h.bi.block
  · exact h.be.block
theorem At.dlt {w : World} {lo d n : Nat} {m : Mp} {D : Dv} (h : At w lo d n m D) : d < w.heap.size := (Array.getElem?_eq_some_iff.1 h.cells).1
/-- a block of cells is none of its maps -/
theorem At.out {w : World} {lo d n : Nat} {m : Mp} {D : Dv} (h : At w lo d n m D) {k : Nat} {c : Array Value} {t : TypeId} {f : Nat × Nat} (hk : w.heap[k]? = some (.cells c t f)) (hd : k ≠ d) : k ∉ own d m := by
  intro hm
  rcases List.mem_cons.1 hm with e | hm
  · exact hd e
  · obtain ⟨es, ck, h1⟩ := h.maps k hm
    rw [hk] at h1
    cases h1
theorem At.mono {w : World} {lo lo' d n n' : Nat} {m : Mp} {D : Dv} (h : At w lo d n m D) (hn : n ≤ n') (hl : lo' ≤ lo) : At w lo' d n' m D := by
  obtain ⟨k, hk⟩ := h.rf
  exact ⟨h.cells, ⟨k, hk.mono hn (Nat.le_refl _)⟩, h.rp.mono hn (Nat.le_refl _), h.ba.mono hn, h.bi.mono hn, h.be.mono hn, h.nodup, Nat.le_trans hl h.lod, fun x hx => Nat.le_trans hl (h.lom x hx)⟩
/-- a block that is no row of cells -/
def NoCells (w : World) (x : Nat) : Prop := ∀ c t f, w.heap[x]? ≠ some (.cells c t f)
theorem nocells {w : World} {x : Nat} (h : ∃ es ck, w.heap[x]? = some (.map es ck)) : NoCells w x := by
  obtain ⟨es, ck, h⟩ := h
  intro c t f e
  rw [h] at e
  cases e
theorem rows_turn {S : List Nat} {w w' : World} {base b n np : Nat} {F : Int → Option (List Nat)} (h : RowMap w base b n F np) (ht : Turn S w w') (hb : b ∉ S)
    (hS : ∀ x ∈ S, x < base ∨ NoCells w x ∨ ∃ v, w.cell? ⟨x, 0, none⟩ = some v ∧ ∀ z, v ≠ .int .u8 z) : RowMap w' base b n F np := by
  obtain ⟨es0, ck0, hb0⟩ := h.block
  obtain ⟨D, h1, h2, h3⟩ := h
  refine ⟨D, ownsMap_of h1 (ht.block b (Array.getElem?_eq_some_iff.1 hb0).1 hb), h2, fun i => ?_⟩
  have := h3 i
  cases hF : F i with
  | none => rw [hF] at this; exact this
  | some l =>
    rw [hF] at this
    obtain ⟨a, g, cap, b1, b2, b3⟩ := this
    obtain ⟨c, t, f, hc⟩ := nums_cells b2 (by decide)
    refine ⟨a, g, cap, b1, nums_of_cells b2 (ht.block g (Array.getElem?_eq_some_iff.1 hc).1 fun hm => ?_), b3⟩
    rcases hS g hm with h | h | ⟨v, hv, hz⟩
    · omega
    · exact h _ _ _ hc
    · obtain ⟨b', o', he, hc'⟩ := b2.at (j := 0) (by rw [b2.len]; decide)
      cases he
      rw [Nat.zero_add] at hc'
      rw [hc'] at hv
      exact hz _ (Option.some.inj hv).symm
theorem bools_turn {S : List Nat} {w w' : World} {b n : Nat} {F : Int → Bool} (h : BoolMap w b n F) (ht : Turn S w w') (hb : b ∉ S) : BoolMap w' b n F := by
  obtain ⟨es0, ck0, hb0⟩ := h.block
  exact h.still (ht.block b (Array.getElem?_eq_some_iff.1 hb0).1 hb)
theorem sets_turn {S : List Nat} {w w' : World} {b n k : Nat} {F : Int → Bool} (h : SetMap w b n F k) (ht : Turn S w w') (hb : b ∉ S) : SetMap w' b n F k := by
  obtain ⟨es0, ck0, hb0⟩ := h.block
  exact h.still (ht.block b (Array.getElem?_eq_some_iff.1 hb0).1 hb)
/-- what writes elsewhere leaves it -/
theorem At.turn {S : List Nat} {w w' : World} {lo d n : Nat} {m : Mp} {D : Dv} (h : At w lo d n m D) (ht : Turn S w w') (hd : d ∉ S) (hm : ∀ x ∈ m.list, x ∉ S)
    (hS : ∀ x ∈ S, NoCells w x ∨ ∃ v, w.cell? ⟨x, 0, none⟩ = some v ∧ ∀ z, v ≠ .int .u8 z) : At w' lo d n m D := by
  have hm1 : ∀ x, x ∈ m.list → x ∉ S := hm
  obtain ⟨k, hk⟩ := h.rf
  have mm : m.f ∈ m.list ∧ m.p ∈ m.list ∧ m.a ∈ m.list ∧ m.i ∈ m.list ∧ m.e ∈ m.list := by simp [Mp.list]
  obtain ⟨m1, m2, m3, m4, m5⟩ := mm
  exact ⟨ht.cells h.cells hd, ⟨k, rows_turn hk ht (hm _ m1) fun x hx => .inr (hS x hx)⟩, rows_turn h.rp ht (hm _ m2) fun x hx => .inr (hS x hx), bools_turn h.ba ht (hm _ m3), bools_turn h.bi ht (hm _ m4), sets_turn h.be ht (hm _ m5), h.nodup, h.lod, h.lom⟩
theorem At.below {w w' : World} {lo d n : Nat} {m : Mp} {D : Dv} (h : At w lo d n m D) (hb : Below w.heap.size w w') : At w' lo d n m D :=
  h.turn (S := []) (Turn.of_below hb) (by simp) (by simp) (by simp)
theorem nums_turn {S : List Nat} {w w' : World} {a : Option Addr} {n cap : Nat} {l : List Nat} (h : Nums .u8 w a n cap l) (ht : Turn S w w') (hS : ∀ x ∈ S, ∀ off z, w.cell? ⟨x, off, none⟩ ≠ some (.int .u8 z)) : Nums .u8 w' a n cap l := by
  obtain ⟨h1, h2, h3, h4, h5⟩ := h
  refine ⟨h1, h2, h3, h4, fun j u hj => ?_⟩
  obtain ⟨b, o, rfl, hc⟩ := h5 j u hj
  refine ⟨b, o, rfl, ?_⟩
  obtain ⟨z, rfl⟩ : ∃ z, u = .int .u8 z := by
    obtain ⟨y, _, rfl⟩ := List.mem_map.1 (List.mem_of_getElem? hj)
    exact ⟨_, rfl⟩
  rw [World.cell?_of_block (w := w) (ht.block b (World.block_lt_of_cell? _ _ hc) fun hm => hS b hm _ _ hc)]
  exact hc
theorem nou8_cells {w : World} {x : Nat} {c : Array Value} {t : TypeId} (h : w.heap[x]? = some (.cells c t)) (hc : ∀ v ∈ c.toList, ∀ z, v ≠ .int .u8 z) (off : Nat) (z : Int) : w.cell? ⟨x, off, none⟩ ≠ some (.int .u8 z) := by
  intro e
  simp [World.cell?, h] at e
  exact hc _ (Array.mem_toList_iff.2 (Array.mem_of_getElem? e)) z rfl
theorem At.nou8 {w : World} {lo d n : Nat} {m : Mp} {D : Dv} (h : At w lo d n m D) : ∀ x ∈ own d m, ∀ off z, w.cell? ⟨x, off, none⟩ ≠ some (.int .u8 z) := by
  intro x hx off z
  rcases List.mem_cons.1 hx with rfl | hx
  · refine nou8_cells h.cells ?_ off z
    intro v hv z e
    subst e
    simp at hv
  · obtain ⟨es, ck, hb⟩ := h.maps x hx
    intro e
    simp [World.cell?, hb] at e
/-- a row is none of the device's blocks -/
theorem At.nerow {w : World} {lo d n : Nat} {m : Mp} {D : Dv} (h : At w lo d n m D) {g cap : Nat} {l : List Nat} (hl : Nums .u8 w (some ⟨g, 0, none⟩) 256 cap l) : g ≠ d := by
  rintro rfl
  obtain ⟨b', o', he, hc'⟩ := hl.at (j := 0) (by rw [hl.len]; decide)
  cases he
  rw [Nat.zero_add] at hc'
  exact h.nou8 g List.mem_cons_self 0 _ hc'
end Go.Proofs.YtagbnacffiagcaaDoor.DevG
