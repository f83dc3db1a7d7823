/- A device in memory (package dev), as long as it is up and not armed. -/
import Derived.Test.YtjecnjgngahmfaaDoorMaps
import Derived.Test.YtjecnjgngahmfaaDoorSeeWalk
import Derived.Deep.DeepMust
import Derived.BigQuiet
namespace Go.Proofs.YtjecnjgngahmfaaDoor.DevW
open Go Go.RowKit Go.Maps Go.Proofs.YtjecnjgngahmfaaDoor.Mem Go.Proofs.YtjecnjgngahmfaaDoor.MapsW
set_option linter.unusedVariables false
set_option maxRecDepth 100000

/-- the five errors of a device stand at bs -/
def Fv (w : World) (bs : List Addr) : Prop := True ∧ True ∧ ∀ (i g : Nat), i ∈ [1, 2, 4, 5, 6] → SeeW.gl[i]? = some g → ∃ a, bs[i]? = some a ∧ Err.At w g a
theorem Fv.below {w w' : World} {bs : List Addr} (h : Fv w bs) (hb : Below w.heap.size w w') : Fv w' bs :=
  ⟨trivial, trivial, fun i g hm hi => let ⟨a, ha, hA⟩ := h.2.2 i g hm hi; ⟨a, ha, hA.below hb⟩⟩
theorem Fv.of {w : World} {bs : List Addr} (h : SeeW.Bs w bs) : Fv w bs := ⟨trivial, trivial, fun i g _ hi => h.2.2 i g hi⟩
theorem Fv.make {w : World} {a1 a2 a4 a5 a6 : Addr} (h1 : Err.At w 4 a1) (h2 : Err.At w 0 a2) (h4 : Err.At w 1 a4) (h5 : Err.At w 3 a5) (h6 : Err.At w 2 a6) : ∃ bs, Fv w bs := by
  refine ⟨[a1, a1, a2, a2, a4, a5, a6], trivial, trivial, fun i g hm hi => ?_⟩
  simp only [List.mem_cons, List.not_mem_nil, or_false] at hm
  rcases hm with rfl | rfl | rfl | rfl | rfl
  · cases hi; exact ⟨a1, rfl, h1⟩
  · cases hi; exact ⟨a2, rfl, h2⟩
  · cases hi; exact ⟨a4, rfl, h4⟩
  · cases hi; exact ⟨a5, rfl, h5⟩
  · cases hi; exact ⟨a6, rfl, h6⟩
/-- what is written alone: the blocks S -/
structure Turn (S : List Nat) (w w' : World) : Prop where
  os : w'.os = w.os
  tape : w'.tape = w.tape
  output : w'.output = w.output
  size : w.heap.size ≤ w'.heap.size
  block : ∀ k, k < w.heap.size → k ∉ S → w'.heap[k]? = w.heap[k]?
theorem Turn.refl (S : List Nat) (w : World) : Turn S w w := ⟨rfl, rfl, rfl, Nat.le_refl _, fun _ _ _ => rfl⟩
theorem Turn.trans {S S' : List Nat} {a b c : World} (h : Turn S a b) (k : Turn S' b c) (hS : ∀ x ∈ S', x ∈ S ∨ a.heap.size ≤ x) : Turn S a c :=
  ⟨k.os.trans h.os, k.tape.trans h.tape, k.output.trans h.output, Nat.le_trans h.size k.size, fun i hi hn =>
    (k.block i (Nat.lt_of_lt_of_le hi h.size) (fun hm => (hS i hm).elim hn (by omega))).trans (h.block i hi hn)⟩
theorem Turn.then {S : List Nat} {a b c : World} (h : Turn S a b) (k : Turn S b c) : Turn S a c := h.trans k fun x hx => .inl hx
theorem Turn.mono {S S' : List Nat} {a b : World} (h : Turn S a b) (hS : ∀ x ∈ S, x ∈ S') : Turn S' a b :=
  ⟨h.os, h.tape, h.output, h.size, fun k hk hn => h.block k hk fun hm => hn (hS k hm)⟩
theorem Turn.of_below {S : List Nat} {a b : World} (h : Below a.heap.size a b) : Turn S a b := ⟨h.os, h.tape, h.output, h.size, fun k hk _ => h.block k hk⟩
theorem Turn.of_grown {S : List Nat} {a b : World} {x : Nat} (h : a.grownBy b (some x)) (hx : x ∈ S) : Turn S a b :=
  ⟨h.os, h.tape, h.output, h.size, fun k hk hn => h.block k hk fun e => hn (Option.some.inj e ▸ hx)⟩
theorem Turn.below {S : List Nat} {a b : World} {lo : Nat} (h : Turn S a b) (hlo : lo ≤ a.heap.size) (hS : ∀ x ∈ S, lo ≤ x) : Below lo a b :=
  ⟨h.os, h.tape, h.output, h.size, fun k hk => h.block k (by omega) fun hm => by have := hS k hm; omega⟩
theorem Turn.setCell {S : List Nat} (w : World) (d j : Nat) (v : Value) (hd : d ∈ S) : Turn S w (w.setCell ⟨d, j, none⟩ v) :=
  ⟨rfl, rfl, rfl, by simp, fun k _ hn => heap_setCell_other w ⟨d, j, none⟩ k v fun e => hn (by rw [e]; exact hd)⟩
theorem Turn.cells {S : List Nat} {a b : World} (h : Turn S a b) {k : Nat} {o : Obj} (hk : a.heap[k]? = some o) (hn : k ∉ S) : b.heap[k]? = some o :=
  (h.block k (Array.getElem?_eq_some_iff.1 hk).1 hn).trans hk

/-- a device's maps -/
structure Mp where
  f : Nat
  p : Nat
  a : Nat
  i : Nat
  e : Nat
def Mp.list (m : Mp) : List Nat := [m.f, m.p, m.a, m.i, m.e]
/-- what a device holds -/
structure Dv where
  blocks : Nat
  fl : Int → Option (List Nat)
  pe : Int → Option (List Nat)
  fa : Int → Bool
  fi : Int → Bool
  ev : Int → Bool
  np : Nat
  calls : Nat
abbrev cellsOf (m : Mp) (D : Dv) : Array Value := #[.int .i64 D.blocks, .map (some m.f), .map (some m.p), .map (some m.a), .map (some m.i), .map (some m.e), .int .i64 D.calls, .int .i64 0, .bool false]
/-- block d of w is a device: its blocks lie from lo on, its rows behind d; no map has more than n entries -/
structure At (w : World) (lo d n : Nat) (m : Mp) (D : Dv) : Prop where
  cells : w.heap[d]? = some (.cells (cellsOf m D) 104)
  rf : ∃ k, RowMap w (d + 1) m.f n D.fl k
  rp : RowMap w (d + 1) m.p n D.pe D.np
  ba : BoolMap w m.a n D.fa
  bi : BoolMap w m.i n D.fi
  be : BoolMap w m.e n D.ev
  nodup : m.list.Nodup
  lod : lo ≤ d
  lom : ∀ x ∈ m.list, lo ≤ x
/-- the device's own blocks -/
abbrev own (d : Nat) (m : Mp) : List Nat := d :: m.list
theorem At.own_lo {w : World} {lo d n : Nat} {m : Mp} {D : Dv} (h : At w lo d n m D) : ∀ x ∈ own d m, lo ≤ x := by
  intro x hx
  rcases List.mem_cons.1 hx with rfl | hx
  · exact h.lod
  · exact h.lom x hx
/-- its maps are maps -/
theorem At.maps {w : World} {lo d n : Nat} {m : Mp} {D : Dv} (h : At w lo d n m D) : ∀ x ∈ m.list, ∃ es ck, w.heap[x]? = some (.map es ck) := by
  intro x hx
  simp only [Mp.list, List.mem_cons, List.not_mem_nil, or_false] at hx
  rcases hx with rfl | rfl | rfl | rfl | rfl
  · obtain ⟨k, hk⟩ := h.rf; exact hk.block
  · exact h.rp.block
  · exact h.ba.block
  · exact h.bi.block
  · exact h.be.block
theorem At.dlt {w : World} {lo d n : Nat} {m : Mp} {D : Dv} (h : At w lo d n m D) : d < w.heap.size := (Array.getElem?_eq_some_iff.1 h.cells).1
/-- a block of cells is none of its maps -/
theorem At.out {w : World} {lo d n : Nat} {m : Mp} {D : Dv} (h : At w lo d n m D) {k : Nat} {c : Array Value} {t : TypeId} {f : Nat × Nat} (hk : w.heap[k]? = some (.cells c t f)) (hd : k ≠ d) : k ∉ own d m := by
  intro hm
  rcases List.mem_cons.1 hm with e | hm
  · exact hd e
  · obtain ⟨es, ck, h1⟩ := h.maps k hm
    rw [hk] at h1
    cases h1
theorem At.mono {w : World} {lo lo' d n n' : Nat} {m : Mp} {D : Dv} (h : At w lo d n m D) (hn : n ≤ n') (hl : lo' ≤ lo) : At w lo' d n' m D := by
  obtain ⟨k, hk⟩ := h.rf
  exact ⟨h.cells, ⟨k, hk.mono hn (Nat.le_refl _)⟩, h.rp.mono hn (Nat.le_refl _), h.ba.mono hn, h.bi.mono hn, h.be.mono hn, h.nodup, Nat.le_trans hl h.lod, fun x hx => Nat.le_trans hl (h.lom x hx)⟩
/-- a block that is no row of cells -/
def NoCells (w : World) (x : Nat) : Prop := ∀ c t f, w.heap[x]? ≠ some (.cells c t f)
theorem nocells {w : World} {x : Nat} (h : ∃ es ck, w.heap[x]? = some (.map es ck)) : NoCells w x := by
  obtain ⟨es, ck, h⟩ := h
  intro c t f e
  rw [h] at e
  cases e
theorem rows_turn {S : List Nat} {w w' : World} {base b n np : Nat} {F : Int → Option (List Nat)} (h : RowMap w base b n F np) (ht : Turn S w w') (hb : b ∉ S)
    (hS : ∀ x ∈ S, x < base ∨ NoCells w x ∨ ∃ v, w.cell? ⟨x, 0, none⟩ = some v ∧ ∀ z, v ≠ .int .u8 z) : RowMap w' base b n F np := by
  obtain ⟨es0, ck0, hb0⟩ := h.block
  obtain ⟨D, h1, h2, h3⟩ := h
  refine ⟨D, ownsMap_of h1 (ht.block b (Array.getElem?_eq_some_iff.1 hb0).1 hb), h2, fun i => ?_⟩
  have := h3 i
  cases hF : F i with
  | none => rw [hF] at this; exact this
  | some l =>
    rw [hF] at this
    obtain ⟨a, g, cap, b1, b2, b3⟩ := this
    obtain ⟨c, t, f, hc⟩ := nums_cells b2 (by decide)
    refine ⟨a, g, cap, b1, nums_of_cells b2 (ht.block g (Array.getElem?_eq_some_iff.1 hc).1 fun hm => ?_), b3⟩
    rcases hS g hm with h | h | ⟨v, hv, hz⟩
    · omega
    · exact h _ _ _ hc
    · obtain ⟨b', o', he, hc'⟩ := b2.at (j := 0) (by rw [b2.len]; decide)
      cases he
      rw [Nat.zero_add] at hc'
      rw [hc'] at hv
      exact hz _ (Option.some.inj hv).symm
theorem bools_turn {S : List Nat} {w w' : World} {b n : Nat} {F : Int → Bool} (h : BoolMap w b n F) (ht : Turn S w w') (hb : b ∉ S) : BoolMap w' b n F := by
  obtain ⟨es0, ck0, hb0⟩ := h.block
  exact h.still (ht.block b (Array.getElem?_eq_some_iff.1 hb0).1 hb)
/-- what writes elsewhere leaves it -/
theorem At.turn {S : List Nat} {w w' : World} {lo d n : Nat} {m : Mp} {D : Dv} (h : At w lo d n m D) (ht : Turn S w w') (hd : d ∉ S) (hm : ∀ x ∈ m.list, x ∉ S)
    (hS : ∀ x ∈ S, NoCells w x ∨ ∃ v, w.cell? ⟨x, 0, none⟩ = some v ∧ ∀ z, v ≠ .int .u8 z) : At w' lo d n m D := by
  have hm1 : ∀ x, x ∈ m.list → x ∉ S := hm
  obtain ⟨k, hk⟩ := h.rf
  have mm : m.f ∈ m.list ∧ m.p ∈ m.list ∧ m.a ∈ m.list ∧ m.i ∈ m.list ∧ m.e ∈ m.list := by simp [Mp.list]
  obtain ⟨m1, m2, m3, m4, m5⟩ := mm
  exact ⟨ht.cells h.cells hd, ⟨k, rows_turn hk ht (hm _ m1) fun x hx => .inr (hS x hx)⟩, rows_turn h.rp ht (hm _ m2) fun x hx => .inr (hS x hx), bools_turn h.ba ht (hm _ m3), bools_turn h.bi ht (hm _ m4), bools_turn h.be ht (hm _ m5), h.nodup, h.lod, h.lom⟩
theorem At.below {w w' : World} {lo d n : Nat} {m : Mp} {D : Dv} (h : At w lo d n m D) (hb : Below w.heap.size w w') : At w' lo d n m D :=
  h.turn (S := []) (Turn.of_below hb) (by simp) (by simp) (by simp)
end Go.Proofs.YtjecnjgngahmfaaDoor.DevW
