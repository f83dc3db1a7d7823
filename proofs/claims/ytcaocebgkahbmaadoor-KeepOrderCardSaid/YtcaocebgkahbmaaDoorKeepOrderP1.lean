/- Memory, as the walks of this seat speak of it: a slice that reads as a list; what stays when blocks are made; The walks of package breviaryref that many laws use: bytes copied, held against one another; Maps keyed by an int: of rows of bytes, of bools; Sets: maps of bools that hold what is true alone; how many; What a row's listed error variables give a walk: each variable holds a pointer of its own; The walks of package breviarysee: an error as plain data; A device in memory (package dev), whatever it is: armed, down; The walks of package dev that only ask; The walks of package dev that write. -/
import Derived.WalkKit
import Derived.WalkSmall
import Derived.Laws.AppendOwnNone
import Derived.Laws.CopyOwn
import Derived.Test.YtcaocebgkahbmaaDoorProg
import Derived.Deep.DeepMust
import Derived.Deep.QuietTactic
import Derived.BigQuiet
import Derived.WalkSpells
import Derived.Maps.OwnOps
import Derived.Maps.OwnSet
import Derived.Maps.RangeWalk
import Derived.Maps.Ext
import Derived.LaidLaws
import Derived.LaidMore
import Derived.LaidHandle
import Derived.MakeChecks
import Derived.Stop.LaidErr
import Derived.KernelRfl
import Derived.Below
import Derived.LaidEql
import Derived.LaidEqlPtr
import Derived.Deep.RegionHeld3
namespace Go.Proofs.YtcaocebgkahbmaaDoor.Mem
open Go Go.RowKit

/-- a slice's n elements, 'size' cells each, are the cells xs -/
def Row (w : World) (size : Nat) (a : Option Addr) (n cap : Nat) (xs : List Value) : Prop :=
  xs.length = n * size ∧ n ≤ cap ∧ cap ≤ maxLen ∧ (a = none → cap = 0) ∧
    ∀ j u, xs[j]? = some u → ∃ b off, a = some ⟨b, off, none⟩ ∧ w.cell? ⟨b, off + j, none⟩ = some u

/-- a fact kept from the walk -/
theorem hid {p : Prop} (h : p) : Hid p := h
theorem ret_bool {a b : Bool} (h : a = b) : Ending.returned (.bool a) = .returned (.bool b) := by rw [h]
theorem ret_int {k : IntKind} {a b : Int} (h : a = b) : Ending.returned (.int k a) = .returned (.int k b) := by rw [h]
theorem beq_cast {a b c d : Nat} (h : a = b ↔ c = d) : (((a : Int) == (b : Int)) == ((c : Int) == (d : Int))) = true := by
  by_cases e : a = b
  · have e' := h.1 e; subst e; subst e'; simp
  · have e' : ¬ c = d := fun x => e (h.2 x)
    have h1 : ((a : Int) == (b : Int)) = false := by simp; omega
    have h2 : ((c : Int) == (d : Int)) = false := by simp; omega
    rw [h1, h2]; rfl

/-- numbers of a kind as cells -/
def nums (k : IntKind) (l : List Nat) : List Value := l.map fun (x : Nat) => .int k (x : Int)

/-- a slice of numbers -/
def Nums (k : IntKind) (w : World) (a : Option Addr) (n cap : Nat) (l : List Nat) : Prop := Row w 1 a n cap (nums k l)

theorem nums_length (k : IntKind) (l : List Nat) : (nums k l).length = l.length := by simp [nums]
theorem nums_take_succ (k : IntKind) (l : List Nat) (j : Nat) (h : j < l.length) : nums k (l.take (j + 1)) = nums k (l.take j) ++ [.int k ((l[j] : Nat) : Int)] := by
  rw [List.take_succ_eq_append_getElem h]
  unfold nums
  rw [List.map_append]
  rfl
theorem nums_get {k : IntKind} {l : List Nat} {j : Nat} (h : j < l.length) : (nums k l)[j]? = some (.int k ((l[j] : Nat) : Int)) := by simp [nums, h]

theorem Row.keep {w w' : World} {size : Nat} {a : Option Addr} {n cap : Nat} {xs : List Value} (h : Row w size a n cap xs)
    (hk : ∀ b o, a = some ⟨b, o, none⟩ → b < w.heap.size → w'.heap[b]? = w.heap[b]?) : Row w' size a n cap xs := by
  obtain ⟨h1, h2, h3, h4, h5⟩ := h
  refine ⟨h1, h2, h3, h4, fun j u hj => ?_⟩
  obtain ⟨b, off, ha, hc⟩ := h5 j u hj
  refine ⟨b, off, ha, ?_⟩
  have hlt := World.block_lt_of_cell? w ⟨b, off + j, none⟩ hc
  rw [World.cell?_of_block (w := w) (hk b off ha hlt)]
  exact hc
theorem Row.below {w w' : World} {size : Nat} {a : Option Addr} {n cap : Nat} {xs : List Value} (h : Row w size a n cap xs)
    (hb : Below w.heap.size w w') : Row w' size a n cap xs := h.keep fun b _ _ hlt => hb.block b hlt
theorem Nums.below {k : IntKind} {w w' : World} {a : Option Addr} {n cap : Nat} {l : List Nat} (h : Nums k w a n cap l)
    (hb : Below w.heap.size w w') : Nums k w' a n cap l := Row.below h hb
theorem Nums.len {k : IntKind} {w : World} {a : Option Addr} {n cap : Nat} {l : List Nat} (h : Nums k w a n cap l) : l.length = n := by
  have := h.1; rw [nums_length] at this; omega
theorem Nums.bound {k : IntKind} {w : World} {a : Option Addr} {n cap : Nat} {l : List Nat} (h : Nums k w a n cap l) : n ≤ cap ∧ cap ≤ 9223372036854775807 := by
  have := h.2.2.1; unfold maxLen at this; exact ⟨h.2.1, by omega⟩
/-- an element is a cell -/
theorem Nums.at {k : IntKind} {w : World} {a : Option Addr} {n cap : Nat} {l : List Nat} (h : Nums k w a n cap l) {j : Nat} (hj : j < l.length) :
    ∃ b off, a = some ⟨b, off, none⟩ ∧ w.cell? ⟨b, off + j, none⟩ = some (.int k ((l[j] : Nat) : Int)) := h.2.2.2.2 j _ (nums_get hj)
theorem Nums.take {k : IntKind} {w : World} {a : Option Addr} {n cap : Nat} {l : List Nat} (h : Nums k w a n cap l) {m : Nat} (hm : m ≤ n) : Nums k w a m cap (l.take m) := by
  have hl := h.len
  obtain ⟨h1, h2, h3, h4, h5⟩ := h
  refine ⟨by rw [nums_length, List.length_take]; omega, by omega, h3, h4, fun j u hj => ?_⟩
  refine h5 j u ?_
  have : nums k (l.take m) = (nums k l).take m := by simp [nums, List.map_take]
  rw [this, List.getElem?_take] at hj
  split at hj
  · exact hj
  · simp at hj
theorem Nums.nil (k : IntKind) (w : World) : Nums k w none 0 0 [] := ⟨rfl, Nat.le_refl _, Nat.zero_le _, fun _ => rfl, fun j u h => by simp [nums] at h⟩

theorem Row.owned {w : World} {base : Nat} {e : TypeId} {size : Nat} {a : Option Addr} {n cap m : Nat} {xs : List Value}
    (h : w.ownsRow base e size (.slice a n cap) m xs) : n = m ∧ Row w size a n cap xs := by
  have hc := fun g hg => World.ownsRow.cells h (g := g) hg
  obtain ⟨h1, h2⟩ := h
  rcases h2 with ⟨hv, h0⟩ | ⟨g, c, cur, hv, _, hg, h3, h4, h5, h6⟩
  · cases hv
    subst h0
    have : xs = [] := by simpa using h1
    subst this
    exact ⟨rfl, by simp, Nat.le_refl _, Nat.zero_le _, fun _ => rfl, fun j u h => by simp at h⟩
  · cases hv
    refine ⟨rfl, h1, h3, h4, fun h => by simp at h, fun j u hj => ⟨g, 0, rfl, ?_⟩⟩
    have := hc g rfl j u hj
    have ea : (⟨g, 0, none⟩ : Addr).add j = ⟨g, 0 + j, none⟩ := by unfold Addr.add; split <;> simp_all
    rw [ea] at this
    exact this

theorem Row.cell {w : World} {size : Nat} {b off n cap : Nat} {xs : List Value} (h : Row w size (some ⟨b, off, none⟩) n cap xs) {j : Nat} {u : Value} (hj : xs[j]? = some u) :
    w.cell? ⟨b, off + j, none⟩ = some u := by
  obtain ⟨b', off', he, hc⟩ := h.2.2.2.2 j u hj
  cases he
  exact hc
theorem Row.one {w : World} {g : Nat} {u : Value} (h : w.cell? ⟨g, 0, none⟩ = some u) : Row w 1 (some ⟨g, 0, none⟩) 1 1 [u] := by
  refine ⟨rfl, Nat.le_refl _, by decide, fun h => by simp at h, fun j v hj => ⟨g, 0, rfl, ?_⟩⟩
  match j, hj with
  | 0, hj => simp at hj; subst hj; exact h
  | j + 1, hj => simp at hj

/-- the types of a slice: its own, its element's; a zero element, in cells and bytes -/
structure El (P : Program) (t e : TypeId) (z : Value) (size bytes : Nat) : Prop where
  ht : P.underlying t = some (.slice e)
  hi : (P.info? e).map (fun i => (i.zero, i.size, i.bytes)) = some (some z, size, bytes)
  hz : z.cells.size = size
  h0 : 0 < size

theorem nums_oneCell (k : IntKind) (l : List Nat) : ∀ u ∈ nums k l, u.oneCell' = true := by
  intro u hu
  simp only [nums, List.mem_map] at hu
  obtain ⟨x, _, rfl⟩ := hu
  rfl

/-- append to a slice of one's own, of whatever row -/
theorem wpList_app {P : Program} {t e : TypeId} {z : Value} {size bytes : Nat} (E : El P t e z size bytes) {w : World} {ops : Array Oper} {rest : List Oper} {o : Oper} {a : Act} {Q : Exit → Act → World → Prop}
    (hg : o.guard = none) (s x : Operand) (hop : o.op = .call { callee := .builtin .append, args := #[s, x], argTypes := #[t, t] })
    (base : Nat) (v : Value) (n : Nat) (xs : List Value) (hs : a.eval s = v) (hown : w.ownsRow base e size v n xs)
    (ao : Option Addr) (m c : Nat) (ys : List Value) (hx : a.eval x = .slice ao m c) (hy : Row w size ao m c ys) (h1 : ∀ u ∈ ys, u.oneCell' = true)
    (h63 : n + m ≤ maxLen) (hbytes : (n + m) * bytes ≤ 140737488355328) (hbase : base ≤ w.heap.size)
    (h : ∀ v' w', w'.ownsRow base e size v' (n + m) (xs ++ ys) → Below base w w' → w.grownBy w' v.ownBlock → wpList P ops Q rest (a.put o.dst v') w') : wpList P ops Q (o :: rest) a w := by
  obtain ⟨i, hi, hz0, hz1, hz2⟩ := info_parts E.hi
  cases ao with
  | none =>
    have hc := hy.2.2.2.1 rfl
    have hm : m = 0 := by have := hy.2.1; omega
    subst hc; subst hm
    have hys : ys = [] := List.eq_nil_of_length_eq_zero (by have := hy.1; simpa using this)
    subst hys
    refine wpList_append_own_none hg s x t hop base e i size E.ht hi v n xs hs hown hx ?_
    exact h v w (by simpa using hown) (Below.refl _ _) (World.grownBy.refl _ _)
  | some ad =>
    refine wpList_append_own w hg s x t hop base e i z size bytes E.ht hi hz0 hz1 hz2 E.hz E.h0 v n xs hs hown ad m c ys hx hy.1 ?_ h1 h63 hbytes hbase (fun v' w' h2 h3 _ => h v' w' h2 ((Below.refl _ _).grown h3 hbase fun b hb => (hown.lt b hb).1) h3)
    intro j u hj
    obtain ⟨b, off, ha, hc⟩ := hy.2.2.2.2 j u hj
    cases ha
    rw [Addr.add_lit]
    exact hc

/-- append of one element of one cell, laid in a new block -/
theorem wpList_push {P : Program} {t e : TypeId} {z : Value} {bytes : Nat} (E : El P t e z 1 bytes) {w : World} {ops : Array Oper} {rest : List Oper} {o : Oper} {a : Act} {Q : Exit → Act → World → Prop}
    (hg : o.guard = none) (s x : Operand) (hop : o.op = .call { callee := .builtin .append, args := #[s, x], argTypes := #[t, t] })
    (base : Nat) (v : Value) (n : Nat) (xs : List Value) (hs : a.eval s = v) (hown : w.ownsRow base e 1 v n xs)
    (g : Nat) (u : Value) (hx : a.eval x = .slice (some ⟨g, 0, none⟩) 1 1) (hc : w.cell? ⟨g, 0, none⟩ = some u) (h1 : u.oneCell' = true)
    (h63 : n + 1 ≤ maxLen) (hbytes : (n + 1) * bytes ≤ 140737488355328) (hbase : base ≤ w.heap.size)
    (h : ∀ v' w', w'.ownsRow base e 1 v' (n + 1) (xs ++ [u]) → Below base w w' → w.grownBy w' v.ownBlock → wpList P ops Q rest (a.put o.dst v') w') : wpList P ops Q (o :: rest) a w :=
  wpList_app E hg s x hop base v n xs hs hown _ 1 1 [u] hx (Row.one hc) (fun x hx => by simp at hx; subst hx; exact h1) h63 hbytes hbase h

/-- make([]T, 0, n) -/
theorem wpList_mk0 {P : Program} {t e : TypeId} {z : Value} {size bytes : Nat} (E : El P t e z size bytes) {w : World} {ops : Array Oper} {rest : List Oper} {o : Oper} {a : Act} {Q : Exit → Act → World → Prop}
    (hg : o.guard = none) (l c : Operand) (hop : o.op = Op.makeSlice t l c)
    (base : Nat) (kl kc : IntKind) (C : Int) (n : Nat) (hl : a.eval l = .int kl 0) (hc : a.eval c = .int kc C) (hC : C = (n : Int)) (b2 : bytes * n ≤ 281474976710656) (b3 : n ≤ maxLen) (b4 : base ≤ w.heap.size)
    (hK : ∀ w', w'.ownsRow base e size (.slice (some ⟨w.heap.size, 0, none⟩) 0 n) 0 [] → w.grownBy w' none → wpList P ops Q rest (a.put o.dst (.slice (some ⟨w.heap.size, 0, none⟩) 0 n)) w') :
    wpList P ops Q (o :: rest) a w := by
  obtain ⟨i, hi, hz0, hz1, hz2⟩ := info_parts E.hi
  exact wpList_make_own w hg l c t hop base e i z size E.ht hi hz0 hz1 kl kc C n hl hc hC (by rw [hz2]; exact b2) b3 b4 hK

/-- make([]T, n) -/
theorem wpList_mkn {P : Program} {t e : TypeId} {z : Value} {size bytes : Nat} (E : El P t e z size bytes) {w : World} {ops : Array Oper} {rest : List Oper} {o : Oper} {a : Act} {Q : Exit → Act → World → Prop}
    (hg : o.guard = none) (l c : Operand) (hop : o.op = Op.makeSlice t l c)
    (base : Nat) (kl kc : IntKind) (L C : Int) (n : Nat) (hl : a.eval l = .int kl L) (hc : a.eval c = .int kc C) (hL : L = (n : Int)) (hC : C = (n : Int)) (b2 : bytes * n ≤ 281474976710656) (b3 : n ≤ maxLen) (b4 : base ≤ w.heap.size)
    (hK : ∀ w', w'.ownsRow base e size (.slice (some ⟨w.heap.size, 0, none⟩) n n) n (madeCells z.cells (n * size)).toList → w.grownBy w' none → wpList P ops Q rest (a.put o.dst (.slice (some ⟨w.heap.size, 0, none⟩) n n)) w') :
    wpList P ops Q (o :: rest) a w := by
  obtain ⟨i, hi, hz0, hz1, hz2⟩ := info_parts E.hi
  exact wpList_make_full w hg l c t hop base e i z size E.ht hi hz0 hz1 kl kc L C n hl hc hL hC (by rw [hz2]; exact b2) b3 b4 hK

/-- what is owned reads on, behind what wrote elsewhere -/
theorem ownsRow_below {w w' : World} {base : Nat} {e : TypeId} {size : Nat} {v : Value} {n : Nat} {xs : List Value} (h : w.ownsRow base e size v n xs) (hb : Below w.heap.size w w') :
    w'.ownsRow base e size v n xs := h.kept (row := none) ⟨hb.os, hb.tape, hb.output, hb.size, fun k hk _ => hb.block k hk⟩ (by cases v.ownBlock <;> simp)
/-- what one owns from a base on one owns from a lower one on -/
theorem ownsRow_base {w : World} {base base' : Nat} {e : TypeId} {size : Nat} {v : Value} {n : Nat} {xs : List Value} (h : w.ownsRow base e size v n xs) (hb : base' ≤ base) :
    w.ownsRow base' e size v n xs := by
  obtain ⟨h1, h2⟩ := h
  refine ⟨h1, ?_⟩
  rcases h2 with h2 | ⟨g, cap, cur, hv, hg, r⟩
  · exact .inl h2
  · exact .inr ⟨g, cap, cur, hv, Nat.le_trans hb hg, r⟩
/-- a slice of one's own is a slice -/
theorem ownsRow_slice {w : World} {base : Nat} {e : TypeId} {size : Nat} {v : Value} {n : Nat} {xs : List Value} (h : w.ownsRow base e size v n xs) :
    ∃ a cap, v = .slice a n cap ∧ Row w size a n cap xs := by
  have h' := h
  obtain ⟨_, h2⟩ := h'
  rcases h2 with ⟨rfl, rfl⟩ | ⟨g, cap, cur, rfl, _⟩
  · exact ⟨none, 0, rfl, (Row.owned h).2⟩
  · exact ⟨_, cap, rfl, (Row.owned h).2⟩
/-- where there is an element there is a block -/
theorem own_some {w : World} {base : Nat} {e : TypeId} {size : Nat} {a : Option Addr} {n cap : Nat} {xs : List Value} (h : w.ownsRow base e size (.slice a n cap) n xs) (hn : 0 < n) :
    ∃ g, a = some ⟨g, 0, none⟩ := by
  rcases h.2 with ⟨_, h0⟩ | ⟨g, c, cur, hv, _⟩
  · omega
  · cases hv; exact ⟨g, rfl⟩
/-- a cell that a call has kept -/
theorem keep {B : Nat} {w w' : World} {b o : Nat} {v : Value} (hb : Below B w w') (h : w.cell? ⟨b, o, none⟩ = some v) (hlt : b < B) : w'.cell? ⟨b, o, none⟩ = some v := by
  rw [hb.cell (p := ⟨b, o, none⟩) hlt]; exact h
theorem kept {w w' : World} {b o : Nat} {v : Value} (hb : Below w.heap.size w w') (h : w.cell? ⟨b, o, none⟩ = some v) : w'.cell? ⟨b, o, none⟩ = some v :=
  keep hb h (World.block_lt_of_cell? w _ h)
theorem new2 (w : World) (x y : Value) (t : TypeId) : (w.alloc (.cells #[x, y] t)).cell? ⟨w.heap.size, 0, none⟩ = some x ∧ (w.alloc (.cells #[x, y] t)).cell? ⟨w.heap.size, 1, none⟩ = some y := by
  constructor <;> simp
theorem below_put {B : Nat} {a w : World} (h : Below B a w) (hB : B ≤ w.heap.size) {w' : World} (o : Obj) (k : Below (w.alloc o).heap.size (w.alloc o) w') : Below B a w' :=
  (h.alloc hB o).trans (k.mono (by simp; omega))
theorem below_growns {B : Nat} {w w' : World} (h : w.grownBy w' none) (hB : B ≤ w.heap.size) : Below B w w' :=
  (Below.refl B w).grown h hB (fun k h => by cases h)

theorem Row.fresh3 (w : World) (a b c : Value) (e : TypeId) : Row (w.alloc (.cells #[a, b, c] e)) 3 (some ⟨w.heap.size, 0, none⟩) 1 1 [a, b, c] := by
  refine ⟨rfl, Nat.le_refl _, by decide, fun h => by simp at h, fun j u hj => ⟨w.heap.size, 0, rfl, ?_⟩⟩
  rw [World.cell?_alloc_mark, Nat.zero_add]
  simpa using hj
theorem oneCell3 {a b c : Value} (ha : a.oneCell' = true) (hb : b.oneCell' = true) (hc : c.oneCell' = true) : ∀ u ∈ [a, b, c], u.oneCell' = true := by
  intro u hu
  simp at hu
  rcases hu with rfl | rfl | rfl <;> assumption
theorem Row.fresh2 (w : World) (a b : Value) (e : TypeId) : Row (w.alloc (.cells #[a, b] e)) 2 (some ⟨w.heap.size, 0, none⟩) 1 1 [a, b] := by
  refine ⟨rfl, Nat.le_refl _, by decide, fun h => by simp at h, fun j u hj => ⟨w.heap.size, 0, rfl, ?_⟩⟩
  rw [World.cell?_alloc_mark, Nat.zero_add]
  simpa using hj
theorem oneCell2 {a b : Value} (ha : a.oneCell' = true) (hb : b.oneCell' = true) : ∀ u ∈ [a, b], u.oneCell' = true := by
  intro u hu
  simp at hu
  rcases hu with rfl | rfl <;> assumption

/-- a row of numbers that one owns, at the head of block g -/
abbrev OwnN (w : World) (base : Nat) (e : TypeId) (k : IntKind) (g n cap : Nat) (l : List Nat) : Prop :=
  w.ownsRow base e 1 (.slice (some ⟨g, 0, none⟩) n cap) n (nums k l)
theorem OwnN.len {w : World} {base : Nat} {e : TypeId} {k : IntKind} {g n cap : Nat} {l : List Nat} (h : OwnN w base e k g n cap l) : l.length = n := by
  have := h.1; rw [nums_length] at this; omega
theorem OwnN.cell {w : World} {base : Nat} {e : TypeId} {k : IntKind} {g n cap : Nat} {l : List Nat} (h : OwnN w base e k g n cap l) {j : Nat} (hj : j < l.length) :
    w.cell? ⟨g, j, none⟩ = some (.int k ((l[j] : Nat) : Int)) := by
  have := h.len
  rw [World.ownsRow.cellAt h j (by omega), nums_get hj]
theorem OwnN.set {w : World} {base : Nat} {e : TypeId} {k : IntKind} {g n cap : Nat} {l : List Nat} (h : OwnN w base e k g n cap l) (j x : Nat) :
    OwnN (w.setCell ⟨g, j, none⟩ (.int k (x : Int))) base e k g n cap (l.set j x) := by
  have := (World.ownsRow.stored h j (.int k (x : Int))).1
  have e2 : nums k (l.set j x) = (nums k l).set j (.int k (x : Int)) := by simp [nums, List.map_set]
  show World.ownsRow _ _ _ _ _ _ _
  rw [e2]; exact this
theorem mod256 (x : Nat) : (((x : Int) + 1) % 256) = (((x + 1) % 256 : Nat) : Int) := by omega
theorem OwnN.nums {w : World} {base : Nat} {e : TypeId} {k : IntKind} {g n cap : Nat} {l : List Nat} (h : OwnN w base e k g n cap l) :
    Nums k w (some ⟨g, 0, none⟩) n cap l := (Row.owned h).2
theorem OwnN.lt {w : World} {base : Nat} {e : TypeId} {k : IntKind} {g n cap : Nat} {l : List Nat} (h : OwnN w base e k g n cap l) : base ≤ g ∧ g < w.heap.size :=
  World.ownsRow.lt h g rfl

/-- a block that has just been laid, read whole -/
theorem Row.fresh (w : World) (cs : Array Value) (e : TypeId) (fr : Nat × Nat) (n : Nat) (hn : n = cs.size) (hm : n ≤ maxLen) :
    Row (w.alloc (.cells cs e fr)) 1 (some ⟨w.heap.size, 0, none⟩) n n cs.toList := by
  subst hn
  refine ⟨by simp, Nat.le_refl _, hm, fun h => by simp at h, fun j u hj => ⟨w.heap.size, 0, rfl, ?_⟩⟩
  rw [World.cell?_alloc_mark, Nat.zero_add]
  simpa using hj

/-- a slice of integers that came in: nil, or a row of 'cap' cells, the numbers zs -/
def IsRow (k : IntKind) (w : World) (a : Option Addr) (len cap : Nat) (zs : List Int) : Prop :=
  (a = none ∧ len = 0 ∧ cap = 0 ∧ zs = []) ∨
  ∃ x, a = some x ∧ len ≤ cap ∧ cap ≤ maxLen ∧ zs.length = cap ∧ (∀ i, i < zs.length → w.cell? (x.add i) = some (.int k (zs.getD i 0))) ∧ ∀ n ∈ zs, (Lit.int k n).wf = true

theorem nat_of {k : IntKind} (hk : k.signed = false) {n : Int} (h : (Lit.int k n).wf = true) : 0 ≤ n ∧ n.toNat < 2 ^ k.bits := by
  simp only [Lit.wf, IntKind.min, IntKind.max, hk, Bool.and_eq_true, decide_eq_true_eq] at h
  cases k <;> simp [IntKind.signed] at hk <;> simp [IntKind.bits] at h ⊢ <;> omega

theorem int_of {n : Int} (h : (Lit.int .i64 n).wf = true) : -9223372036854775808 ≤ n ∧ n ≤ 9223372036854775807 := by
  simp [Lit.wf, IntKind.min, IntKind.max, IntKind.signed, IntKind.bits] at h
  exact h

/-- as natural numbers, where the kind has no sign -/
theorem nums_of {k : IntKind} (hk : k.signed = false) {w : World} {a : Option Addr} {len cap : Nat} {zs : List Int} (h : IsRow k w a len cap zs) :
    ∃ l : List Nat, Nums k w a len cap l ∧ ∀ x ∈ l, x < 2 ^ k.bits := by
  rcases h with ⟨rfl, rfl, rfl, rfl⟩ | ⟨x, rfl, hl, hm, hz, hc, hw⟩
  · exact ⟨[], Nums.nil k w, by simp⟩
  · refine ⟨(zs.take len).map Int.toNat, ⟨?_, hl, hm, fun h => by simp at h, fun j u hj => ?_⟩, ?_⟩
    · simp [nums]; omega
    · have hjl : j < len := by
        have := (List.getElem?_eq_some_iff.1 hj).1
        simp [nums] at this; omega
      have h1 := hc j (by omega)
      obtain ⟨b, off, spot⟩ := x
      have hs : spot = none := by
        have h0 := hc 0 (by omega)
        simpa [Addr.add] using World.cell?_spot h0
      subst hs
      refine ⟨b, off, rfl, ?_⟩
      rw [Addr.add_lit] at h1
      rw [h1]
      have hjz : j < zs.length := by omega
      have hw' := nat_of hk (hw _ (List.getElem_mem hjz))
      have hu : u = .int k (zs[j]) := by
        have h2 : (nums k ((zs.take len).map Int.toNat))[j]? = some (.int k ((zs[j].toNat : Nat) : Int)) := by
          simp [nums, hjl, hjz]
        rw [h2] at hj
        rw [← Option.some.inj hj, Int.toNat_of_nonneg hw'.1]
      rw [hu, List.getD_eq_getElem?_getD, List.getElem?_eq_getElem hjz]
      rfl
    · intro y hy
      simp only [List.mem_map] at hy
      obtain ⟨z, hz', rfl⟩ := hy
      exact (nat_of hk (hw z (List.mem_of_mem_take hz'))).2
end Go.Proofs.YtcaocebgkahbmaaDoor.Mem

namespace Go.Proofs.YtcaocebgkahbmaaDoor.RefW
open Go Go.RowKit Go.Proofs.YtcaocebgkahbmaaDoor.Mem
set_option linter.unusedVariables false
set_option maxRecDepth 100000

theorem elU8 : El Tryd.prog 29 5 (.int .u8 0) 1 1 := ⟨Tryd.underlying29, by kernel_rfl, rfl, by decide⟩

theorem take_snoc (l : List Nat) (k : Nat) (h : k < l.length) : l.take (k + 1) = l.take k ++ [l[k]] := by
  rw [List.take_succ_eq_append_getElem h]
theorem made_nums (k : IntKind) (n : Nat) : (madeCells (Value.int k 0).cells (n * 1)).toList = nums k (List.replicate n 0) := by
  rw [Nat.mul_one]
  show (madeCells #[Value.int k 0] n).toList = _
  rw [toList_madeCells_one]
  simp [nums]


theorem same_of_take {l m : List Nat} {k : Nat} (hl : k = l.length) (hm : k = m.length) (h : l.take k = m.take k) : l = m := by
  rwa [List.take_of_length_le (by omega), List.take_of_length_le (by omega)] at h

set_option maxHeartbeats 800000 in
/-- a copy of bytes by the library's own Clone -/
theorem clone_w (a : Option Addr) (n cap : Nat) (l : List Nat) (w : World) (hr : Nums .u8 w a n cap l) (hn : n ≤ 140737488355328) :
    Calls Tryd.prog 13 #[.slice a n cap] w fun e w' => ∃ v, e = .returned v ∧ w'.ownsRow w.heap.size 5 1 v n (nums .u8 l) ∧ Below w.heap.size w w' := by
  have ke := fun (w : World) (a : Option Addr) (n c : Nat) => Lib.run_eql_slice_nil (P := Tryd.prog) w 29 5 a n c 0 0 Tryd.underlying29
  cases a with
  | none =>
    have hc := hr.2.2.2.1 rfl
    have hn0 : n = 0 := by have := hr.2.1; omega
    subst hc; subst hn0
    have hl : l = [] := List.eq_nil_of_length_eq_zero hr.len
    subst hl
    go_enter Tryd.func13, Tryd.ntmps13
    go_wp2
    go_ret
    exact ⟨_, rfl, World.ownsRow_nil _ _ _ _, Below.refl _ _⟩
  | some ad =>
    go_enter Tryd.func13, Tryd.ntmps13
    go_wp2_with (at_builtin; go_must (refine wpList_app elU8 rfl _ _ rfl w.heap.size (.slice (some ⟨w.heap.size, 0, none⟩) 0 0) 0 [] rfl (World.ownsRow_made w #[] 0 (Nat.le_refl _) (by decide) rfl) (some ad) n cap (nums .u8 l) rfl (Row.below hr ((Below.refl _ _).alloc (Nat.le_refl _) _)) (nums_oneCell _ _) (by unfold maxLen; omega) (by omega) (by simp) ?_); intro v1 w1 own1 hb1 _)
    go_ret
    rw [Nat.zero_add, List.nil_append] at own1
    exact ⟨_, rfl, own1, ((Below.refl _ _).alloc (Nat.le_refl _) _).trans hb1⟩
end Go.Proofs.YtcaocebgkahbmaaDoor.RefW

namespace Go.Proofs.YtcaocebgkahbmaaDoor.MapsW
open Go Go.RowKit Go.Maps Go.Proofs.YtcaocebgkahbmaaDoor.Mem
set_option linter.unusedVariables false
set_option maxRecDepth 100000

theorem law : Keyed Tryd.prog 3 := int_keyed Tryd.underlying3
theorem wfi {i : Int} (h : -9223372036854775808 ≤ i ∧ i ≤ 9223372036854775807) : (Lit.int .i64 i).wf = true := by
  simp [Lit.wf, IntKind.min, IntKind.max, IntKind.signed, IntKind.bits]; omega
theorem key {i : Int} (h : -9223372036854775808 ≤ i ∧ i ≤ 9223372036854775807) : keyOf Tryd.prog 3 (.int .i64 i) = some (.int .i64 i) := keyOf_int_mk Tryd.underlying3 (wfi h)
theorem islit (i : Int) : WideAt.IsKeyLit (.int .i64 i) := trivial
/-- an int that fits -/
abbrev Fits (i : Int) : Prop := -9223372036854775808 ≤ i ∧ i ≤ 9223372036854775807

/-- how an element that is a row reads: its block, its length, its room -/
def rowd (g n cap : Nat) : DataW Unit := .agg [.lit (.int .i64 g), .lit (.int .i64 n), .lit (.int .i64 cap)]
def rowR : Value → Option (DataW Unit × List MemPlace)
  | .slice none 0 0 => some (.nil, [])
  | .slice (some ⟨g, 0, none⟩) n cap => some (rowd g n cap, [])
  | _ => none
theorem rowR_nil {v : Value} {ps : List MemPlace} (h : rowR v = some (.nil, ps)) : v = .slice none 0 0 := by
  unfold rowR at h
  split at h
  · rfl
  · simp [rowd] at h
  · cases h
theorem rowR_row {v : Value} {g n cap : Nat} {ps : List MemPlace} (h : rowR v = some (rowd g n cap, ps)) : v = .slice (some ⟨g, 0, none⟩) n cap := by
  unfold rowR at h
  split at h
  · simp [rowd] at h
  · simp only [rowd, Option.some.injEq, Prod.mk.injEq, DataW.agg.injEq, List.cons.injEq, DataW.lit.injEq, Lit.int.injEq, true_and, and_true, Int.natCast_inj] at h
    obtain ⟨⟨rfl, rfl, rfl⟩, _⟩ := h
    rfl
  · cases h
theorem rowR_mk (g n cap : Nat) : rowR (.slice (some ⟨g, 0, none⟩) n cap) = some (rowd g n cap, []) := rfl

/-- block b of w is a map of rows of 256 bytes, one at each key at which F has one; np of them; the rows lie from base on -/
def RowMap (w : World) (base b n : Nat) (F : Int → Option (List Nat)) (np : Nat) : Prop :=
  ∃ D, w.ownsMap Tryd.prog 3 rowR b n D ∧ Maps.size D = np ∧
    ∀ i, match F i with
      | none => Maps.has D (.int .i64 i) = false
      | some l => Maps.has D (.int .i64 i) = true ∧ ∃ g cap, (∀ z, D.atKey (.int .i64 i) z = rowd g 256 cap) ∧ Nums .u8 w (some ⟨g, 0, none⟩) 256 cap l ∧ base ≤ g
/-- block b of w is a map of bools -/
def BoolMap (w : World) (b n : Nat) (F : Int → Bool) : Prop :=
  ∃ D : DataW Unit, w.ownsMap Tryd.prog 3 (plainElem Tryd.prog 4) b n D ∧ ∀ i, D.atKey (.int .i64 i) (.lit (.bool false)) = .lit (.bool (F i))

theorem zeroRow (w : World) : (zeroValue 29).run Tryd.prog w = .ok (.slice none 0 0) w := by kernel_rfl
theorem zeroBool (w : World) : (zeroValue 4).run Tryd.prog w = .ok (.bool false) w := by kernel_rfl

theorem RowMap.mono {w : World} {base base' b n n' : Nat} {F : Int → Option (List Nat)} {np : Nat} (h : RowMap w base b n F np) (hn : n ≤ n') (hb : base' ≤ base) : RowMap w base' b n' F np := by
  obtain ⟨D, h1, h2, h3⟩ := h
  refine ⟨D, h1.mono hn, h2, fun i => ?_⟩
  have := h3 i
  cases hF : F i with
  | none => rw [hF] at this; exact this
  | some l =>
    rw [hF] at this
    obtain ⟨a, g, cap, b1, b2, b3⟩ := this
    exact ⟨a, g, cap, b1, b2, by omega⟩
theorem BoolMap.mono {w : World} {b n n' : Nat} {F : Int → Bool} (h : BoolMap w b n F) (hn : n ≤ n') : BoolMap w b n' F := by
  obtain ⟨D, h1, h2⟩ := h
  exact ⟨D, h1.mono hn, h2⟩
/-- a map's block -/
theorem RowMap.block {w : World} {base b n : Nat} {F : Int → Option (List Nat)} {np : Nat} (h : RowMap w base b n F np) : ∃ es ck, w.heap[b]? = some (.map es ck) := by
  obtain ⟨D, ⟨es, ck, h1, _⟩, _⟩ := h
  exact ⟨es, ck, h1⟩
theorem BoolMap.block {w : World} {b n : Nat} {F : Int → Bool} (h : BoolMap w b n F) : ∃ es ck, w.heap[b]? = some (.map es ck) := by
  obtain ⟨D, ⟨es, ck, h1, _⟩, _⟩ := h
  exact ⟨es, ck, h1⟩

/-- what is written elsewhere: the map's block, and each block of cells but d, are as they were -/
structure Still (d : Nat) (w w' : World) (b : Nat) : Prop where
  map : w'.heap[b]? = w.heap[b]?
  cells : ∀ k c t f, k ≠ d → w.heap[k]? = some (.cells c t f) → w'.heap[k]? = w.heap[k]?
theorem ownsMap_of {H : Type} {w w' : World} {P : Program} {k : TypeId} {R : Value → Option (DataW H × List MemPlace)} {b n : Nat} {D : DataW H} (h : w.ownsMap P k R b n D) (e : w'.heap[b]? = w.heap[b]?) : w'.ownsMap P k R b n D := by
  obtain ⟨es, ck, h1, h2⟩ := h
  exact ⟨es, ck, e.trans h1, h2⟩
theorem cell_cells {w : World} {b o : Nat} {v : Value} (h : w.cell? ⟨b, o, none⟩ = some v) : ∃ c t f, w.heap[b]? = some (.cells c t f) := by
  unfold World.cell? at h
  cases hb : w.heap[b]? with
  | none => simp [hb] at h
  | some o => cases o <;> simp [hb] at h ⊢
theorem nums_of_cells {k : IntKind} {w w' : World} {g n cap : Nat} {l : List Nat} (h : Nums k w (some ⟨g, 0, none⟩) n cap l) (e : w'.heap[g]? = w.heap[g]?) : Nums k w' (some ⟨g, 0, none⟩) n cap l := by
  obtain ⟨h1, h2, h3, h4, h5⟩ := h
  refine ⟨h1, h2, h3, h4, fun j u hj => ?_⟩
  obtain ⟨b, o, he, hc⟩ := h5 j u hj
  refine ⟨b, o, he, ?_⟩
  cases he
  rw [World.cell?_of_block (w := w) e]
  exact hc
theorem nums_cells {k : IntKind} {w : World} {g n cap : Nat} {l : List Nat} (h : Nums k w (some ⟨g, 0, none⟩) n cap l) (hn : 0 < n) : ∃ c t f, w.heap[g]? = some (.cells c t f) := by
  obtain ⟨b, o, he, hc⟩ := h.at (j := 0) (by rw [h.len]; exact hn)
  cases he
  exact cell_cells hc
theorem RowMap.still {w w' : World} {d base b n : Nat} {F : Int → Option (List Nat)} {np : Nat} (h : RowMap w base b n F np) (hd : d < base) (hs : Still d w w' b) : RowMap w' base b n F np := by
  obtain ⟨D, h1, h2, h3⟩ := h
  refine ⟨D, ownsMap_of h1 hs.map, h2, fun i => ?_⟩
  have := h3 i
  cases hF : F i with
  | none => rw [hF] at this; exact this
  | some l =>
    rw [hF] at this
    obtain ⟨a, g, cap, b1, b2, b3⟩ := this
    obtain ⟨c, t, f, hc⟩ := nums_cells b2 (by decide)
    exact ⟨a, g, cap, b1, nums_of_cells b2 (hs.cells g c t f (by omega) hc), b3⟩
theorem BoolMap.still {w w' : World} {b n : Nat} {F : Int → Bool} (h : BoolMap w b n F) (e : w'.heap[b]? = w.heap[b]?) : BoolMap w' b n F := by
  obtain ⟨D, h1, h2⟩ := h
  exact ⟨D, ownsMap_of h1 e, h2⟩

/-- a new map -/
theorem RowMap.made (w : World) (base : Nat) : RowMap (w.alloc (.map #[] 0)) base w.heap.size 0 (fun _ => none) 0 :=
  ⟨.map [], World.ownsMap_made _ _ _ _, rfl, fun i => rfl⟩
theorem BoolMap.made (w : World) : BoolMap (w.alloc (.map #[] 0)) w.heap.size 0 (fun _ => false) :=
  ⟨.map [], World.ownsMap_made _ _ _ _, fun i => rfl⟩

/-- what is looked up -/
theorem RowMap.look_none {w : World} {base b n : Nat} {F : Int → Option (List Nat)} {np : Nat} (h : RowMap w base b n F np) {i : Int} (hi : Fits i) (hF : F i = none) :
    (Instr.lookup 51 (.map (some b)) (.int .i64 i) false).run Tryd.prog w = .ok (.slice none 0 0) w := by
  obtain ⟨D, h1, _, h3⟩ := h
  have := h3 i
  rw [hF] at this
  obtain ⟨v, ps, hr, hv⟩ := h1.lookup law Tryd.underlying51 (zeroRow w) (zd := .nil) (zp := []) rfl (key hi)
  rw [atKey_of_not_has this] at hv
  rw [rowR_nil hv] at hr
  exact hr
theorem RowMap.look_some {w : World} {base b n : Nat} {F : Int → Option (List Nat)} {np : Nat} (h : RowMap w base b n F np) {i : Int} (hi : Fits i) {l : List Nat} (hF : F i = some l) :
    ∃ g cap, (Instr.lookup 51 (.map (some b)) (.int .i64 i) false).run Tryd.prog w = .ok (.slice (some ⟨g, 0, none⟩) 256 cap) w ∧ Nums .u8 w (some ⟨g, 0, none⟩) 256 cap l ∧ base ≤ g := by
  obtain ⟨D, h1, _, h3⟩ := h
  have := h3 i
  rw [hF] at this
  obtain ⟨_, g, cap, b1, b2, b3⟩ := this
  obtain ⟨v, ps, hr, hv⟩ := h1.lookup law Tryd.underlying51 (zeroRow w) (zd := .nil) (zp := []) rfl (key hi)
  rw [b1] at hv
  rw [rowR_row hv] at hr
  exact ⟨g, cap, hr, b2, b3⟩
theorem BoolMap.look {w : World} {b n : Nat} {F : Int → Bool} (h : BoolMap w b n F) {i : Int} (hi : Fits i) :
    (Instr.lookup 52 (.map (some b)) (.int .i64 i) false).run Tryd.prog w = .ok (.bool (F i)) w := by
  obtain ⟨D, h1, h2⟩ := h
  obtain ⟨v, ps, hr, hv⟩ := h1.lookup law Tryd.underlying52 (zeroBool w) (zd := .lit (.bool false)) (zp := []) (plainElem_bool Tryd.underlying4 false) (key hi)
  rw [h2 i] at hv
  have : v = .bool (F i) := by
    unfold plainElem at hv
    rw [Tryd.underlying4] at hv
    cases v <;> simp at hv
    rw [hv.1]
  rw [this] at hr
  exact hr

/-- one more, or another, at a key -/
def upd {α : Type} (F : Int → α) (i : Int) (x : α) : Int → α := fun j => if j = i then x else F j
theorem upd_same {α : Type} (F : Int → α) (i : Int) (x : α) : upd F i x i = x := if_pos rfl
theorem upd_other {α : Type} (F : Int → α) {i j : Int} (x : α) (h : j ≠ i) : upd F i x j = F j := if_neg h
theorem litne {i j : Int} (h : j ≠ i) : (Lit.int .i64 j) ≠ Lit.int .i64 i := fun e => h (Lit.int.inj e).2

theorem RowMap.put {w w' : World} {base b n : Nat} {F : Int → Option (List Nat)} {np : Nat} {D : DataW Unit} {i : Int} {g cap : Nat} {l : List Nat}
    (h2 : Maps.size D = np) (h3 : ∀ i, match F i with
      | none => Maps.has D (.int .i64 i) = false
      | some l => Maps.has D (.int .i64 i) = true ∧ ∃ g cap, (∀ z, D.atKey (.int .i64 i) z = rowd g 256 cap) ∧ Nums .u8 w (some ⟨g, 0, none⟩) 256 cap l ∧ base ≤ g)
    (hT : Tidy D) (hown : w'.ownsMap Tryd.prog 3 rowR b (n + 1) (D.put (.int .i64 i) (rowd g 256 cap))) (hg : w.grownBy w' (some b)) (hb : ∃ es ck, w.heap[b]? = some (.map es ck))
    (hl : Nums .u8 w (some ⟨g, 0, none⟩) 256 cap l) (hbg : base ≤ g) : RowMap w' base b (n + 1) (upd F i (some l)) (if (F i).isSome then np else np + 1) := by
  have hk : ∀ g' cap' (l' : List Nat), Nums .u8 w (some ⟨g', 0, none⟩) 256 cap' l' → Nums .u8 w' (some ⟨g', 0, none⟩) 256 cap' l' := by
    intro g' cap' l' hn
    obtain ⟨c, t, f, hc⟩ := nums_cells hn (by decide)
    refine nums_of_cells hn (hg.block g' (Array.getElem?_eq_some_iff.1 hc).1 fun e => ?_)
    obtain ⟨es, ck, hm⟩ := hb
    rw [Option.some.inj e] at hc
    rw [hm] at hc
    cases hc
  refine ⟨_, hown, ?_, fun j => ?_⟩
  · rw [size_put hT, h2]
    have := h3 i
    cases hF : F i with
    | none => rw [hF] at this; rw [this]; rfl
    | some l' => rw [hF] at this; rw [this.1]; rfl
  · by_cases hj : j = i
    · subst hj
      rw [upd_same]
      exact ⟨has_put_same hT.isMap (islit j) _, g, cap, fun z => atKey_put_same hT.isMap (islit j) _ z, hk _ _ _ hl, hbg⟩
    · rw [upd_other _ _ hj]
      have := h3 j
      cases hF : F j with
      | none => rw [hF] at this; exact (has_put_other (litne hj) _).trans this
      | some l' =>
        rw [hF] at this
        obtain ⟨a, g', cap', b1, b2, b3⟩ := this
        exact ⟨(has_put_other (litne hj) _).trans a, g', cap', fun z => (atKey_put_other (litne hj) _ z).trans (b1 z), hk _ _ _ b2, b3⟩

/-- 'm[i] = b' -/
theorem wpList_putRow (w : World) {ops : Array Oper} {rest : List Oper} {o : Oper} {a : Act} {Q : Exit → Act → World → Prop} (hg : o.guard = none) (m x v : Operand) (hop : o.op = Op.mapUpdate 51 m x v)
    {base b n : Nat} {F : Int → Option (List Nat)} {np : Nat} (h : RowMap w base b n F np) (hn : n < 1000000) {i : Int} (hi : Fits i) {g cap : Nat} {l : List Nat} (hl : Nums .u8 w (some ⟨g, 0, none⟩) 256 cap l) (hbg : base ≤ g)
    (hm : a.eval m = .map (some b)) (hx : a.eval x = .int .i64 i) (hv : a.eval v = .slice (some ⟨g, 0, none⟩) 256 cap)
    (hK : ∀ w', RowMap w' base b (n + 1) (upd F i (some l)) (if (F i).isSome then np else np + 1) → w.grownBy w' (some b) → wpList Tryd.prog ops Q rest (a.put o.dst undef) w') : wpList Tryd.prog ops Q (o :: rest) a w := by
  have hb := h.block
  obtain ⟨D, h1, h2, h3⟩ := h
  refine wpList_mapUpdate_own w hg m x v _ hop 3 29 law Tryd.underlying51 rowR b n D hm h1 (by unfold maxLen; omega) _ _ _ hx hv (key hi) _ [] (rowR_mk g 256 cap) fun w' ho hgw => ?_
  exact hK w' (RowMap.put h2 h3 (h1.tidy law) ho hgw hb hl hbg) hgw
/-- the same as an equation on the operation's run -/
theorem RowMap.store {w : World} {base b n : Nat} {F : Int → Option (List Nat)} {np : Nat} (h : RowMap w base b n F np) (hn : n < 1000000) {i : Int} (hi : Fits i) {g cap : Nat} {l : List Nat} (hl : Nums .u8 w (some ⟨g, 0, none⟩) 256 cap l) (hbg : base ≤ g) :
    ∃ w', (Instr.mapUpdate 51 (.map (some b)) (.int .i64 i) (.slice (some ⟨g, 0, none⟩) 256 cap)).run Tryd.prog w = .ok () w' ∧ RowMap w' base b (n + 1) (upd F i (some l)) (if (F i).isSome then np else np + 1) ∧ w.grownBy w' (some b) := by
  have hb := h.block
  obtain ⟨D, h1, h2, h3⟩ := h
  obtain ⟨w', hr, ho, hgw⟩ := h1.update law Tryd.underlying51 (by unfold maxLen; omega) (key hi) (rowR_mk g 256 cap)
  exact ⟨w', hr, RowMap.put h2 h3 (h1.tidy law) ho hgw hb hl hbg, hgw⟩
theorem wpList_putBool (w : World) {ops : Array Oper} {rest : List Oper} {o : Oper} {a : Act} {Q : Exit → Act → World → Prop} (hg : o.guard = none) (m x v : Operand) (hop : o.op = Op.mapUpdate 52 m x v)
    {b n : Nat} {F : Int → Bool} (h : BoolMap w b n F) (hn : n < 1000000) {i : Int} (hi : Fits i) (y : Bool)
    (hm : a.eval m = .map (some b)) (hx : a.eval x = .int .i64 i) (hv : a.eval v = .bool y)
    (hK : ∀ w', BoolMap w' b (n + 1) (upd F i y) → w.grownBy w' (some b) → wpList Tryd.prog ops Q rest (a.put o.dst undef) w') : wpList Tryd.prog ops Q (o :: rest) a w := by
  obtain ⟨D, h1, h2⟩ := h
  refine wpList_mapUpdate_own w hg m x v _ hop 3 4 law Tryd.underlying52 _ b n D hm h1 (by unfold maxLen; omega) _ _ _ hx hv (key hi) _ [] (plainElem_bool Tryd.underlying4 y) fun w' ho hgw => ?_
  refine hK w' ⟨_, ho, fun j => ?_⟩ hgw
  by_cases hj : j = i
  · subst hj
    rw [upd_same, atKey_put_same (h1.tidy law).isMap (islit j)]
  · rw [upd_other _ _ hj, atKey_put_other (litne hj), h2]
theorem wpList_delBool (w : World) {ops : Array Oper} {rest : List Oper} {o : Oper} {a : Act} {Q : Exit → Act → World → Prop} (hg : o.guard = none) (m x : Operand) (hop : o.op = Op.call { callee := Callee.builtin Builtin.delete, args := #[m, x], argTypes := #[52, 3] })
    {b n : Nat} {F : Int → Bool} (h : BoolMap w b n F) {i : Int} (hi : Fits i)
    (hm : a.eval m = .map (some b)) (hx : a.eval x = .int .i64 i)
    (hK : ∀ w', BoolMap w' b n (upd F i false) → w.grownBy w' (some b) → wpList Tryd.prog ops Q rest (a.put o.dst (.tuple #[])) w') : wpList Tryd.prog ops Q (o :: rest) a w := by
  obtain ⟨D, h1, h2⟩ := h
  refine wpList_delete_own w hg m x _ _ hop 4 law Tryd.underlying52 _ b n D hm h1 _ _ hx (key hi) fun w' ho hgw => ?_
  refine hK w' ⟨_, ho, fun j => ?_⟩ hgw.grown
  by_cases hj : j = i
  · subst hj
    rw [upd_same, atKey_del_same]
  · rw [upd_other _ _ hj, atKey_del_other (litne hj), h2]
end Go.Proofs.YtcaocebgkahbmaaDoor.MapsW

namespace Go.Proofs.YtcaocebgkahbmaaDoor.MapsW
open Go Go.RowKit Go.Maps Go.Proofs.YtcaocebgkahbmaaDoor.Mem
set_option linter.unusedVariables false
set_option maxRecDepth 100000

/-- block b of w is a map of bools: true at each of its keys, k of them -/
def SetMap (w : World) (b n : Nat) (F : Int → Bool) (k : Nat) : Prop :=
  ∃ D : DataW Unit, w.ownsMap Tryd.prog 3 (plainElem Tryd.prog 4) b n D ∧ Maps.size D = k ∧ ∀ i, D.atKey (.int .i64 i) (.lit (.bool false)) = .lit (.bool (F i)) ∧ Maps.has D (.int .i64 i) = F i
theorem SetMap.bool {w : World} {b n k : Nat} {F : Int → Bool} (h : SetMap w b n F k) : BoolMap w b n F := by
  obtain ⟨D, h1, _, h2⟩ := h
  exact ⟨D, h1, fun i => (h2 i).1⟩
theorem SetMap.mono {w : World} {b n n' k : Nat} {F : Int → Bool} (h : SetMap w b n F k) (hn : n ≤ n') : SetMap w b n' F k := by
  obtain ⟨D, h1, h2⟩ := h
  exact ⟨D, h1.mono hn, h2⟩
theorem SetMap.block {w : World} {b n k : Nat} {F : Int → Bool} (h : SetMap w b n F k) : ∃ es ck, w.heap[b]? = some (.map es ck) := h.bool.block
theorem SetMap.still {w w' : World} {b n k : Nat} {F : Int → Bool} (h : SetMap w b n F k) (e : w'.heap[b]? = w.heap[b]?) : SetMap w' b n F k := by
  obtain ⟨D, h1, h2⟩ := h
  exact ⟨D, ownsMap_of h1 e, h2⟩
theorem SetMap.made (w : World) : SetMap (w.alloc (.map #[] 0)) w.heap.size 0 (fun _ => false) 0 :=
  ⟨.map [], World.ownsMap_made _ _ _ _, rfl, fun i => ⟨rfl, rfl⟩⟩
theorem wpList_putSet (w : World) {ops : Array Oper} {rest : List Oper} {o : Oper} {a : Act} {Q : Exit → Act → World → Prop} (hg : o.guard = none) (m x v : Operand) (hop : o.op = Op.mapUpdate 52 m x v)
    {b n k : Nat} {F : Int → Bool} (h : SetMap w b n F k) (hn : n < 1000000) {i : Int} (hi : Fits i)
    (hm : a.eval m = .map (some b)) (hx : a.eval x = .int .i64 i) (hv : a.eval v = .bool true)
    (hK : ∀ w', SetMap w' b (n + 1) (upd F i true) (if F i then k else k + 1) → w.grownBy w' (some b) → wpList Tryd.prog ops Q rest (a.put o.dst undef) w') : wpList Tryd.prog ops Q (o :: rest) a w := by
  obtain ⟨D, h1, h3, h2⟩ := h
  refine wpList_mapUpdate_own w hg m x v _ hop 3 4 law Tryd.underlying52 _ b n D hm h1 (by unfold maxLen; omega) _ _ _ hx hv (key hi) _ [] (plainElem_bool Tryd.underlying4 true) fun w' ho hgw => ?_
  refine hK w' ⟨_, ho, ?_, fun j => ?_⟩ hgw
  · rw [size_put (h1.tidy law), (h2 i).2, h3]
  · by_cases hj : j = i
    · subst hj
      rw [upd_same, atKey_put_same (h1.tidy law).isMap (islit j)]
      exact ⟨rfl, has_put_same (h1.tidy law).isMap (islit j) _⟩
    · rw [upd_other _ _ hj, atKey_put_other (litne hj), (h2 j).1]
      exact ⟨rfl, (has_put_other (litne hj) _).trans (h2 j).2⟩
theorem SetMap.len {w : World} {b n k : Nat} {F : Int → Bool} (h : SetMap w b n F k) : ∃ D : DataW Unit, w.ownsMap Tryd.prog 3 (plainElem Tryd.prog 4) b n D ∧ Maps.size D = k := by
  obtain ⟨D, h1, h2, _⟩ := h
  exact ⟨D, h1, h2⟩
/-- a row struck -/
theorem wpList_delRow (w : World) {ops : Array Oper} {rest : List Oper} {o : Oper} {a : Act} {Q : Exit → Act → World → Prop} (hg : o.guard = none) (m x : Operand) (hop : o.op = Op.call { callee := Callee.builtin Builtin.delete, args := #[m, x], argTypes := #[51, 3] })
    {base b n np : Nat} {F : Int → Option (List Nat)} (h : RowMap w base b n F np) {i : Int} (hi : Fits i)
    (hm : a.eval m = .map (some b)) (hx : a.eval x = .int .i64 i)
    (hK : ∀ w', RowMap w' base b n (upd F i none) (if (F i).isSome then np - 1 else np) → w.grownBy w' (some b) → wpList Tryd.prog ops Q rest (a.put o.dst (.tuple #[])) w') : wpList Tryd.prog ops Q (o :: rest) a w := by
  have hbk := h.block
  obtain ⟨D, h1, h2, h3⟩ := h
  refine wpList_delete_own w hg m x _ _ hop 29 law Tryd.underlying51 _ b n D hm h1 _ _ hx (key hi) fun w' ho hgw => ?_
  have hk : ∀ g' cap' (l' : List Nat), Nums .u8 w (some ⟨g', 0, none⟩) 256 cap' l' → Nums .u8 w' (some ⟨g', 0, none⟩) 256 cap' l' := by
    intro g' cap' l' hn
    obtain ⟨c, t, f, hc⟩ := nums_cells hn (by decide)
    refine nums_of_cells hn (hgw.grown.block g' (Array.getElem?_eq_some_iff.1 hc).1 fun e => ?_)
    obtain ⟨es, ck, hmm⟩ := hbk
    rw [Option.some.inj e] at hc
    rw [hmm] at hc
    cases hc
  refine hK w' ⟨_, ho, ?_, fun j => ?_⟩ hgw.grown
  · have hs := size_del (k := .int .i64 i) (h1.tidy law)
    rw [h2] at hs
    have := h3 i
    cases hF : F i with
    | none => rw [hF] at this; rw [this] at hs; simpa using hs
    | some l' => rw [hF] at this; rw [this.1] at hs; simp at hs ⊢; omega
  · by_cases hj : j = i
    · subst hj
      rw [upd_same]
      exact has_del_same
    · rw [upd_other _ _ hj]
      have := h3 j
      cases hF : F j with
      | none => rw [hF] at this; exact (has_del_other (litne hj)).trans this
      | some l' =>
        rw [hF] at this
        obtain ⟨a, g', cap', b1, b2, b3⟩ := this
        exact ⟨(has_del_other (litne hj)).trans a, g', cap', fun z => (atKey_del_other (litne hj) z).trans (b1 z), hk _ _ _ b2, b3⟩
end Go.Proofs.YtcaocebgkahbmaaDoor.MapsW

namespace Go.Proofs.YtcaocebgkahbmaaDoor.Err
open Go Go.RowKit Go.ChangeShapes
set_option maxRecDepth 100000

/-- an error that was made of a text, as a listed datum -/
def datum (t : List UInt8) : DataW Unit := .iface "*errors.errorString" (.ptr (.agg [.lit (.string t)]))
abbrev tp : TypeId := 151
/-- the variable at g holds the error at a -/
def At (w : World) (g : Nat) (a : Addr) : Prop := w.cell? ⟨g, 0, none⟩ = some (.iface tp (.pointer (some a))) ∧ ∃ c t, w.heap[a.block]? = some (.cells c t (0, 0))
theorem At.lt {w : World} {g : Nat} {a : Addr} (h : At w g a) : a.block < w.heap.size := by
  obtain ⟨_, c, t, h2⟩ := h
  rcases Nat.lt_or_ge a.block w.heap.size with h | h
  · exact h
  · rw [Array.getElem?_eq_none h] at h2; cases h2
theorem At.below {w w' : World} {g : Nat} {a : Addr} (h : At w g a) (hb : Below w.heap.size w w') : At w' g a := by
  have hl := h.lt
  obtain ⟨h1, c, t, h2⟩ := h
  refine ⟨?_, c, t, ?_⟩
  · have := World.block_lt_of_cell? w ⟨g, 0, none⟩ h1
    rw [hb.cell (p := ⟨g, 0, none⟩) this]
    exact h1
  · rw [hb.block _ hl]; exact h2

theorem star : "*" ++ "errors.errorString" = "*errors.errorString" := by decide
theorem hrow (u : TypeId) (h : Tryd.prog.typeName? 3 u = some "*errors.errorString") : u = tp :=
  typeName_ptr_named (P := Tryd.prog) (nm := "errors.errorString") (by rw [star]; kernel_rfl) (by kernel_rfl) (by decide) u (by rw [star]; exact h)

theorem of_vars {W : World} : ∀ (l : List (String × List UInt8)) (ps : List MemPlace), DataW.LaidVars Tryd.prog W (l.map fun x => (x.1, datum x.2)) ps →
    (∀ b off, MemPlace.cell b off ∈ ps → (∃ c t, W.heap[b]? = some (.cells c t (0, 0))) ∧ ∀ u v, W.cell? ⟨b, off, none⟩ = some (.iface u v) → Value.okWide Tryd.prog W .any 0 u v) →
    (∀ x ∈ l, ∃ g, Tryd.prog.globalNamed x.1 = some g ∧ (Tryd.prog.globals[g]?).map (·.type) = some 31) →
    ∃ bs : List Addr, bs.length = l.length ∧ (bs.map fun a => MemPlace.cell a.block a.off).Sublist ps ∧
      ∀ (i : Nat) (x : String × List UInt8) (g : Nat), l[i]? = some x → Tryd.prog.globalNamed x.1 = some g → ∃ a, bs[i]? = some a ∧ At W g a := by
  intro l
  induction l with
  | nil => intro ps _ _ _; exact ⟨[], rfl, List.nil_sublist _, fun i x g h => by simp at h⟩
  | cons x r ih =>
    intro ps hv hok hg
    obtain ⟨g0, t0, cs0, f0, p0, q0, hg0, ht0, hv0, hd0, hq, rfl⟩ := hv
    obtain ⟨g, hgn, hgt⟩ := hg x (by simp)
    obtain rfl := Option.some.inj (hgn.symm.trans hg0)
    obtain rfl := Option.some.inj (hgt.symm.trans ht0)
    obtain ⟨l0⟩ := cs0
    have ok0 : ∀ u v, l0 = [.iface u v] → Value.okWide Tryd.prog W .any 0 u v := fun u v e => by
      subst e
      exact (hok g 0 (by simp [MemPlace.row])).2 u v (by simpa using World.var?_cell hgn hv0 0)
    obtain ⟨a0, s0, hl0, _, _, _, rfl⟩ := errorString_of_trod Tryd.underlying31 hrow Tryd.underlying151 Tryd.underlying168 rfl rfl Tryd.underlying9 (by kernel_rfl) (by kernel_rfl) hd0 ok0
    subst hl0
    obtain ⟨bs, hlen, hsub, hat⟩ := ih q0 hq (fun b off hm => hok b off (List.mem_append_right _ hm)) (fun y hy => hg y (by simp [hy]))
    refine ⟨a0 :: bs, by simp [hlen], ?_, ?_⟩
    · have h1 : MemPlace.row a0 1 = [MemPlace.cell a0.block a0.off] := by simp [MemPlace.row]
      rw [h1, List.append_assoc]
      exact List.Sublist.trans (by simpa using hsub) (List.sublist_append_right _ _)
    · intro i y g' hi hg'
      cases i with
      | zero =>
        simp at hi
        subst hi
        obtain rfl := Option.some.inj (hgn.symm.trans hg')
        exact ⟨a0, rfl, by simpa using World.var?_cell hgn hv0 0, (hok a0.block a0.off (by simp [MemPlace.row])).1⟩
      | succ i => exact hat i y g' (by simpa using hi) hg'

/-- the listed errors: each at its variable, no two the same -/
theorem of_laid {W : World} (l : List (String × List UInt8)) (laid : List (String × DataW Unit)) (hl : laid = l.map fun x => (x.1, datum x.2)) (hp : (laid.all fun x => x.2.handleName?.isNone) = true) (h : laidMetH Tryd.prog laid W)
    (hg : ∀ x ∈ l, ∃ g, Tryd.prog.globalNamed x.1 = some g ∧ (Tryd.prog.globals[g]?).map (·.type) = some 31) :
    ∃ bs : List Addr, bs.length = l.length ∧ bs.Nodup ∧ ∀ (i : Nat) (x : String × List UInt8) (g : Nat), l[i]? = some x → Tryd.prog.globalNamed x.1 = some g → ∃ a, bs[i]? = some a ∧ At W g a := by
  rw [MakeChecks.laidMetH_plain _ _ _ hp] at h
  subst hl
  obtain ⟨ps, hv, hnd, hrows⟩ := h
  obtain ⟨bs, h1, h2, h3⟩ := of_vars l ps hv hrows hg
  refine ⟨bs, h1, ?_, h3⟩
  have hn := hnd.sublist h2
  exact (List.pairwise_map.1 hn).imp fun h e => h (by rw [e])

/-- each of the variables gl holds an error of its own -/
def All (w : World) (gl : List Nat) : Prop := ∃ bs : List Addr, bs.length = gl.length ∧ bs.Nodup ∧ ∀ (i g : Nat), gl[i]? = some g → ∃ a, bs[i]? = some a ∧ At w g a
theorem all_of_laid {W : World} (l : List (String × List UInt8)) (gl : List Nat) (laid : List (String × DataW Unit)) (hl : laid = l.map fun x => (x.1, datum x.2)) (hp : (laid.all fun x => x.2.handleName?.isNone) = true) (h : laidMetH Tryd.prog laid W)
    (hg : ∀ x ∈ l, ∃ g, Tryd.prog.globalNamed x.1 = some g ∧ (Tryd.prog.globals[g]?).map (·.type) = some 31)
    (hgl : (l.map fun x => Tryd.prog.globalNamed x.1) = gl.map some) : All W gl := by
  obtain ⟨bs, h1, h2, h3⟩ := of_laid l laid hl hp h hg
  have hlen := congrArg List.length hgl
  simp only [List.length_map] at hlen
  refine ⟨bs, by omega, h2, fun i g hi => ?_⟩
  have hlt : i < gl.length := (List.getElem?_eq_some_iff.1 hi).1
  have hlt2 : i < l.length := by omega
  have e := congrArg (fun z => z[i]?) hgl
  simp only [List.getElem?_map, hi, Option.map_some] at e
  rw [List.getElem?_eq_getElem hlt2] at e
  simp only [Option.map_some, Option.some.injEq] at e
  exact h3 i _ g (List.getElem?_eq_getElem hlt2) e
/-- of a list's variables some alone -/
theorem sub_vars {P : Program} {W : World} : ∀ {l l' : List (String × DataW Unit)}, l'.Sublist l → ∀ (ps : List MemPlace), DataW.LaidVars P W l ps → ∃ ps', DataW.LaidVars P W l' ps' ∧ ps'.Sublist ps := by
  intro l l' h
  induction h with
  | slnil => intro ps hv; exact ⟨ps, hv, List.Sublist.refl _⟩
  | cons a _ ih =>
    intro ps hv
    obtain ⟨g0, t0, cs0, f0, p0, q0, hg0, ht0, hv0, hd0, hq, rfl⟩ := hv
    obtain ⟨ps', h1, h2⟩ := ih q0 hq
    exact ⟨ps', h1, h2.trans (List.sublist_append_right _ _)⟩
  | cons_cons a _ ih =>
    intro ps hv
    obtain ⟨g0, t0, cs0, f0, p0, q0, hg0, ht0, hv0, hd0, hq, rfl⟩ := hv
    obtain ⟨ps', h1, h2⟩ := ih q0 hq
    exact ⟨_, ⟨g0, t0, cs0, f0, p0, ps', hg0, ht0, hv0, hd0, h1, rfl⟩, List.Sublist.append (List.Sublist.refl _) h2⟩
/-- the listed errors, where other variables are listed beside them -/
theorem all_of_sub {W : World} (l : List (String × List UInt8)) (gl : List Nat) (laid : List (String × DataW Unit)) (hl : (l.map fun x => (x.1, datum x.2)).Sublist laid) (hp : (laid.all fun x => x.2.handleName?.isNone) = true) (h : laidMetH Tryd.prog laid W)
    (hg : ∀ x ∈ l, ∃ g, Tryd.prog.globalNamed x.1 = some g ∧ (Tryd.prog.globals[g]?).map (·.type) = some 31)
    (hgl : (l.map fun x => Tryd.prog.globalNamed x.1) = gl.map some) : All W gl := by
  rw [MakeChecks.laidMetH_plain _ _ _ hp] at h
  obtain ⟨ps, hv, hnd, hrows⟩ := h
  obtain ⟨ps', hv', hsub⟩ := sub_vars hl ps hv
  obtain ⟨bs, h1, h2, h3⟩ := of_vars l ps' hv' (fun b off hm => hrows b off (hsub.subset hm)) hg
  have hn := (hnd.sublist hsub).sublist h2
  have hlen := congrArg List.length hgl
  simp only [List.length_map] at hlen
  refine ⟨bs, by omega, (List.pairwise_map.1 hn).imp fun h e => h (by rw [e]), fun i g hi => ?_⟩
  have hlt : i < gl.length := (List.getElem?_eq_some_iff.1 hi).1
  have hlt2 : i < l.length := by omega
  have e := congrArg (fun z => z[i]?) hgl
  simp only [List.getElem?_map, hi, Option.map_some] at e
  rw [List.getElem?_eq_getElem hlt2] at e
  simp only [Option.map_some, Option.some.injEq] at e
  exact h3 i _ g (List.getElem?_eq_getElem hlt2) e
theorem All.at {w : World} {gl : List Nat} (h : All w gl) (i g : Nat) (hi : gl[i]? = some g) : ∃ a, At w g a := by
  obtain ⟨bs, _, _, h3⟩ := h
  obtain ⟨a, _, ha⟩ := h3 i g hi
  exact ⟨a, ha⟩
theorem All.below {w w' : World} {gl : List Nat} (h : All w gl) (hb : Below w.heap.size w w') : All w' gl := by
  obtain ⟨bs, h1, h2, h3⟩ := h
  exact ⟨bs, h1, h2, fun i g hi => let ⟨a, ha, hA⟩ := h3 i g hi; ⟨a, ha, hA.below hb⟩⟩
end Go.Proofs.YtcaocebgkahbmaaDoor.Err

namespace Go.Proofs.YtcaocebgkahbmaaDoor.SeeW
open Go Go.RowKit Go.Proofs.YtcaocebgkahbmaaDoor.Mem
set_option linter.unusedVariables false
set_option maxRecDepth 100000

/-- the variables of api's errors, in the order of the list -/
abbrev gl : List Nat := [900000, 1, 0, 6, 5, 4, 2, 900001, 3, 900002, 900003, 900004, 900005, 900006, 900007, 900008, 900009, 900010, 900011, 900012, 900013, 900014, 900015, 900016]
/-- the errors stand at bs -/
def Bs (w : World) (bs : List Addr) : Prop := bs.length = 24 ∧ bs.Nodup ∧ ∀ (i g : Nat), gl[i]? = some g → ∃ a, bs[i]? = some a ∧ Err.At w g a
theorem Bs.below {w w' : World} {bs : List Addr} (h : Bs w bs) (hb : Below w.heap.size w w') : Bs w' bs := by
  obtain ⟨h1, h2, h3⟩ := h
  exact ⟨h1, h2, fun i g hi => let ⟨a, ha, hA⟩ := h3 i g hi; ⟨a, ha, hA.below hb⟩⟩
theorem bs_of {w : World} (h : Err.All w gl) : ∃ bs, Bs w bs := h
/-- an error as a value -/
abbrev ev (a : Addr) : Value := .iface Err.tp (.pointer (some a))
/-- a fault as a value -/
abbrev Ft (c : Int) (p : Bool) (q : Int) : Value := .agg #[.int .i64 c, .bool p, .int .i64 q]

theorem three_new {w w' : World} {x y z : Value} {t : TypeId} (hb : Below (w.alloc (.cells #[x, y, z] t)).heap.size (w.alloc (.cells #[x, y, z] t)) w') : w'.heap[w.heap.size]? = some (.cells #[x, y, z] t (0, 0)) := by
  rw [hb.block _ (by simp)]; exact heap_alloc_new _ _

end Go.Proofs.YtcaocebgkahbmaaDoor.SeeW

namespace Go.Proofs.YtcaocebgkahbmaaDoor.DevG
open Go Go.RowKit Go.Maps Go.Proofs.YtcaocebgkahbmaaDoor.Mem Go.Proofs.YtcaocebgkahbmaaDoor.MapsW
set_option linter.unusedVariables false
set_option maxRecDepth 100000

/-- what a call says of an error: none, or the k-th of the list -/
def Says (bs : List Addr) (r : Option Nat) (v : Value) : Prop := match r with
  | none => v = .nilIface
  | some k => ∃ a, bs[k]? = some a ∧ v = SeeW.ev a
/-- what is written alone: the blocks S -/
structure Turn (S : List Nat) (w w' : World) : Prop where
  os : w'.os = w.os
  tape : w'.tape = w.tape
  output : w'.output = w.output
  size : w.heap.size ≤ w'.heap.size
  block : ∀ k, k < w.heap.size → k ∉ S → w'.heap[k]? = w.heap[k]?
theorem Turn.refl (S : List Nat) (w : World) : Turn S w w := ⟨rfl, rfl, rfl, Nat.le_refl _, fun _ _ _ => rfl⟩
theorem Turn.trans {S S' : List Nat} {a b c : World} (h : Turn S a b) (k : Turn S' b c) (hS : ∀ x ∈ S', x ∈ S ∨ a.heap.size ≤ x) : Turn S a c :=
  ⟨k.os.trans h.os, k.tape.trans h.tape, k.output.trans h.output, Nat.le_trans h.size k.size, fun i hi hn =>
    (k.block i (Nat.lt_of_lt_of_le hi h.size) (fun hm => (hS i hm).elim hn (by omega))).trans (h.block i hi hn)⟩
theorem Turn.then {S : List Nat} {a b c : World} (h : Turn S a b) (k : Turn S b c) : Turn S a c := h.trans k fun x hx => .inl hx
theorem Turn.mono {S S' : List Nat} {a b : World} (h : Turn S a b) (hS : ∀ x ∈ S, x ∈ S') : Turn S' a b :=
  ⟨h.os, h.tape, h.output, h.size, fun k hk hn => h.block k hk fun hm => hn (hS k hm)⟩
theorem Turn.of_below {S : List Nat} {a b : World} (h : Below a.heap.size a b) : Turn S a b := ⟨h.os, h.tape, h.output, h.size, fun k hk _ => h.block k hk⟩
theorem Turn.of_grown {S : List Nat} {a b : World} {x : Nat} (h : a.grownBy b (some x)) (hx : x ∈ S) : Turn S a b :=
  ⟨h.os, h.tape, h.output, h.size, fun k hk hn => h.block k hk fun e => hn (Option.some.inj e ▸ hx)⟩
theorem Turn.below {S : List Nat} {a b : World} {lo : Nat} (h : Turn S a b) (hlo : lo ≤ a.heap.size) (hS : ∀ x ∈ S, lo ≤ x) : Below lo a b :=
  ⟨h.os, h.tape, h.output, h.size, fun k hk => h.block k (by omega) fun hm => by have := hS k hm; omega⟩
theorem Turn.setCell {S : List Nat} (w : World) (d j : Nat) (v : Value) (hd : d ∈ S) : Turn S w (w.setCell ⟨d, j, none⟩ v) :=
  ⟨rfl, rfl, rfl, by simp, fun k _ hn => heap_setCell_other w ⟨d, j, none⟩ k v fun e => hn (by rw [e]; exact hd)⟩
theorem Turn.cells {S : List Nat} {a b : World} (h : Turn S a b) {k : Nat} {o : Obj} (hk : a.heap[k]? = some o) (hn : k ∉ S) : b.heap[k]? = some o :=
  (h.block k (Array.getElem?_eq_some_iff.1 hk).1 hn).trans hk

/-- the errors I of api stand at bs, below lo, no two the same -/
structure Ev (w : World) (lo : Nat) (bs : List Addr) (I : List Nat) : Prop where
  at_ : ∀ i ∈ I, ∀ g, SeeW.gl[i]? = some g → ∃ a, bs[i]? = some a ∧ Err.At w g a ∧ g < lo ∧ a.block < lo
  inj : ∀ i ∈ I, ∀ j ∈ I, bs[i]? = bs[j]? → i = j
/-- a device's errors -/
abbrev five : List Nat := [1, 2, 4, 5, 6]
theorem Ev.sub {w : World} {lo : Nat} {bs : List Addr} {I I' : List Nat} (h : Ev w lo bs I) (hI : ∀ i ∈ I', i ∈ I) : Ev w lo bs I' :=
  ⟨fun i hi => h.at_ i (hI i hi), fun i hi j hj => h.inj i (hI i hi) j (hI j hj)⟩
theorem Ev.mono {w : World} {lo lo' : Nat} {bs : List Addr} {I : List Nat} (h : Ev w lo bs I) (hl : lo ≤ lo') : Ev w lo' bs I :=
  ⟨fun i hi g hg => let ⟨a, h1, h2, h3, h4⟩ := h.at_ i hi g hg; ⟨a, h1, h2, by omega, by omega⟩, h.inj⟩
theorem Ev.turn {S : List Nat} {w w' : World} {lo : Nat} {bs : List Addr} {I : List Nat} (h : Ev w lo bs I) (ht : Turn S w w') (hS : ∀ x ∈ S, lo ≤ x) : Ev w' lo bs I := by
  refine ⟨fun i hi g hg => ?_, h.inj⟩
  obtain ⟨a, h1, ⟨h2, c, t, h3⟩, h4, h5⟩ := h.at_ i hi g hg
  refine ⟨a, h1, ⟨?_, c, t, ?_⟩, h4, h5⟩
  · have hlt := World.block_lt_of_cell? w ⟨g, 0, none⟩ h2
    rw [World.cell?_of_block (w := w) (ht.block g hlt fun hm => by have := hS g hm; omega)]
    exact h2
  · rw [ht.block _ (Array.getElem?_eq_some_iff.1 h3).1 fun hm => by have := hS _ hm; omega]
    exact h3
theorem Ev.below {w w' : World} {lo : Nat} {bs : List Addr} {I : List Nat} (h : Ev w lo bs I) (hb : Below w.heap.size w w') : Ev w' lo bs I :=
  h.turn (S := []) (Turn.of_below hb) (by simp)
theorem Ev.get {w : World} {lo : Nat} {bs : List Addr} {I : List Nat} (h : Ev w lo bs I) (i g : Nat) (hi : i ∈ I) (hg : SeeW.gl[i]? = some g) : ∃ a, bs[i]? = some a ∧ Err.At w g a :=
  let ⟨a, h1, h2, _, _⟩ := h.at_ i hi g hg; ⟨a, h1, h2⟩
theorem Ev.of_all {w : World} {gs : List Nat} (hE : Err.All w gs) (I : List Nat) (hI : I.map (fun i => SeeW.gl[i]?) = gs.map some) (hn : I.Nodup) : ∃ bs, Ev w w.heap.size bs I := by
  obtain ⟨cs, h1, h2, h3⟩ := hE
  have hlen := congrArg List.length hI
  simp only [List.length_map] at hlen
  have hlt : ∀ i ∈ I, i < SeeW.gl.length := by
    intro i hi
    have := List.mem_map_of_mem (f := fun i => SeeW.gl[i]?) hi
    rw [hI] at this
    obtain ⟨g, _, hg⟩ := List.mem_map.1 this
    exact (List.getElem?_eq_some_iff.1 hg.symm).1
  have hidx : ∀ i ∈ I, I.idxOf i < cs.length := fun i hi => by have := List.idxOf_lt_length_of_mem hi; omega
  have hget : ∀ i ∈ I, ((List.range SeeW.gl.length).map fun i => (cs[I.idxOf i]?).getD ⟨0, 0, none⟩)[i]? = cs[I.idxOf i]? := by
    intro i hi
    rw [List.getElem?_map, List.getElem?_range (hlt i hi)]
    simp [List.getElem?_eq_getElem (hidx i hi)]
  refine ⟨(List.range SeeW.gl.length).map fun i => (cs[I.idxOf i]?).getD ⟨0, 0, none⟩, fun i hi g hg => ?_, fun i hi j hj e => ?_⟩
  · have hk : I[I.idxOf i]? = some i := by rw [List.getElem?_eq_getElem (List.idxOf_lt_length_of_mem hi), List.getElem_idxOf]
    have e := congrArg (fun z => z[I.idxOf i]?) hI
    simp only [List.getElem?_map, hk, Option.map_some] at e
    have hgs : gs[I.idxOf i]? = some g := by
      cases hx : gs[I.idxOf i]? with
      | none => rw [hx] at e; cases e
      | some y =>
        rw [hx] at e
        simp only [Option.map_some, Option.some.injEq] at e
        rw [hg] at e
        exact e.symm
    obtain ⟨a, ha, hA⟩ := h3 _ _ hgs
    exact ⟨a, (hget i hi).trans ha, hA, World.block_lt_of_cell? w ⟨g, 0, none⟩ hA.1, hA.lt⟩
  · rw [hget i hi, hget j hj] at e
    have h5 := (List.getElem?_inj (hidx i hi) h2).1 e
    have a := List.getElem_idxOf (List.idxOf_lt_length_of_mem hi)
    have b := List.getElem_idxOf (List.idxOf_lt_length_of_mem hj)
    rw [← a, ← b]
    simp only [h5]
/-- a device's maps -/
structure Mp where
  f : Nat
  p : Nat
  a : Nat
  i : Nat
  e : Nat
def Mp.list (m : Mp) : List Nat := [m.f, m.p, m.a, m.i, m.e]
/-- what a device holds -/
structure Dv where
  blocks : Nat
  fl : Int → Option (List Nat)
  pe : Int → Option (List Nat)
  fa : Int → Bool
  fi : Int → Bool
  ev : Int → Bool
  np : Nat
  ne : Nat
  calls : Nat
  fuse : Nat := 0
  down : Bool := false
abbrev cellsOf (m : Mp) (D : Dv) : Array Value := #[.int .i64 D.blocks, .map (some m.f), .map (some m.p), .map (some m.a), .map (some m.i), .map (some m.e), .int .i64 D.calls, .int .i64 D.fuse, .bool D.down]
/-- block d of w is a device: its blocks lie from lo on, its rows behind d; no map has more than n entries -/
structure At (w : World) (lo d n : Nat) (m : Mp) (D : Dv) : Prop where
  cells : w.heap[d]? = some (.cells (cellsOf m D) 54)
  rf : ∃ k, RowMap w 0 m.f n D.fl k
  rp : RowMap w 0 m.p n D.pe D.np
  ba : BoolMap w m.a n D.fa
  bi : BoolMap w m.i n D.fi
  be : SetMap w m.e n D.ev D.ne
  nodup : m.list.Nodup
  lod : lo ≤ d
  lom : ∀ x ∈ m.list, lo ≤ x
/-- the device's own blocks -/
abbrev own (d : Nat) (m : Mp) : List Nat := d :: m.list
theorem At.own_lo {w : World} {lo d n : Nat} {m : Mp} {D : Dv} (h : At w lo d n m D) : ∀ x ∈ own d m, lo ≤ x := by
  intro x hx
  rcases List.mem_cons.1 hx with rfl | hx
  · exact h.lod
  · exact h.lom x hx
/-- its maps are maps -/
theorem At.maps {w : World} {lo d n : Nat} {m : Mp} {D : Dv} (h : At w lo d n m D) : ∀ x ∈ m.list, ∃ es ck, w.heap[x]? = some (.map es ck) := by
  intro x hx
  simp only [Mp.list, List.mem_cons, List.not_mem_nil, or_false] at hx
  rcases hx with rfl | rfl | rfl | rfl | rfl
  · obtain ⟨k, hk⟩ := h.rf; exact hk.block
  · exact h.rp.block
  · exact h.ba.block
  · exact h.bi.block
  · exact h.be.block
theorem At.dlt {w : World} {lo d n : Nat} {m : Mp} {D : Dv} (h : At w lo d n m D) : d < w.heap.size := (Array.getElem?_eq_some_iff.1 h.cells).1
/-- a block of cells is none of its maps -/
theorem At.out {w : World} {lo d n : Nat} {m : Mp} {D : Dv} (h : At w lo d n m D) {k : Nat} {c : Array Value} {t : TypeId} {f : Nat × Nat} (hk : w.heap[k]? = some (.cells c t f)) (hd : k ≠ d) : k ∉ own d m := by
  intro hm
  rcases List.mem_cons.1 hm with e | hm
  · exact hd e
  · obtain ⟨es, ck, h1⟩ := h.maps k hm
    rw [hk] at h1
    cases h1
theorem At.mono {w : World} {lo lo' d n n' : Nat} {m : Mp} {D : Dv} (h : At w lo d n m D) (hn : n ≤ n') (hl : lo' ≤ lo) : At w lo' d n' m D := by
  obtain ⟨k, hk⟩ := h.rf
  exact ⟨h.cells, ⟨k, hk.mono hn (Nat.le_refl _)⟩, h.rp.mono hn (Nat.le_refl _), h.ba.mono hn, h.bi.mono hn, h.be.mono hn, h.nodup, Nat.le_trans hl h.lod, fun x hx => Nat.le_trans hl (h.lom x hx)⟩
/-- a block that is no row of cells -/
def NoCells (w : World) (x : Nat) : Prop := ∀ c t f, w.heap[x]? ≠ some (.cells c t f)
theorem nocells {w : World} {x : Nat} (h : ∃ es ck, w.heap[x]? = some (.map es ck)) : NoCells w x := by
  obtain ⟨es, ck, h⟩ := h
  intro c t f e
  rw [h] at e
  cases e
theorem rows_turn {S : List Nat} {w w' : World} {base b n np : Nat} {F : Int → Option (List Nat)} (h : RowMap w base b n F np) (ht : Turn S w w') (hb : b ∉ S)
    (hS : ∀ x ∈ S, x < base ∨ NoCells w x ∨ ∃ v, w.cell? ⟨x, 0, none⟩ = some v ∧ ∀ z, v ≠ .int .u8 z) : RowMap w' base b n F np := by
  obtain ⟨es0, ck0, hb0⟩ := h.block
  obtain ⟨D, h1, h2, h3⟩ := h
  refine ⟨D, ownsMap_of h1 (ht.block b (Array.getElem?_eq_some_iff.1 hb0).1 hb), h2, fun i => ?_⟩
  have := h3 i
  cases hF : F i with
  | none => rw [hF] at this; exact this
  | some l =>
    rw [hF] at this
    obtain ⟨a, g, cap, b1, b2, b3⟩ := this
    obtain ⟨c, t, f, hc⟩ := nums_cells b2 (by decide)
    refine ⟨a, g, cap, b1, nums_of_cells b2 (ht.block g (Array.getElem?_eq_some_iff.1 hc).1 fun hm => ?_), b3⟩
    rcases hS g hm with h | h | ⟨v, hv, hz⟩
    · omega
    · exact h _ _ _ hc
    · obtain ⟨b', o', he, hc'⟩ := b2.at (j := 0) (by rw [b2.len]; decide)
      cases he
      rw [Nat.zero_add] at hc'
      rw [hc'] at hv
      exact hz _ (Option.some.inj hv).symm
theorem bools_turn {S : List Nat} {w w' : World} {b n : Nat} {F : Int → Bool} (h : BoolMap w b n F) (ht : Turn S w w') (hb : b ∉ S) : BoolMap w' b n F := by
  obtain ⟨es0, ck0, hb0⟩ := h.block
  exact h.still (ht.block b (Array.getElem?_eq_some_iff.1 hb0).1 hb)
theorem sets_turn {S : List Nat} {w w' : World} {b n k : Nat} {F : Int → Bool} (h : SetMap w b n F k) (ht : Turn S w w') (hb : b ∉ S) : SetMap w' b n F k := by
  obtain ⟨es0, ck0, hb0⟩ := h.block
  exact h.still (ht.block b (Array.getElem?_eq_some_iff.1 hb0).1 hb)
/-- what writes elsewhere leaves it -/
theorem At.turn {S : List Nat} {w w' : World} {lo d n : Nat} {m : Mp} {D : Dv} (h : At w lo d n m D) (ht : Turn S w w') (hd : d ∉ S) (hm : ∀ x ∈ m.list, x ∉ S)
    (hS : ∀ x ∈ S, NoCells w x ∨ ∃ v, w.cell? ⟨x, 0, none⟩ = some v ∧ ∀ z, v ≠ .int .u8 z) : At w' lo d n m D := by
  have hm1 : ∀ x, x ∈ m.list → x ∉ S := hm
  obtain ⟨k, hk⟩ := h.rf
  have mm : m.f ∈ m.list ∧ m.p ∈ m.list ∧ m.a ∈ m.list ∧ m.i ∈ m.list ∧ m.e ∈ m.list := by simp [Mp.list]
  obtain ⟨m1, m2, m3, m4, m5⟩ := mm
  exact ⟨ht.cells h.cells hd, ⟨k, rows_turn hk ht (hm _ m1) fun x hx => .inr (hS x hx)⟩, rows_turn h.rp ht (hm _ m2) fun x hx => .inr (hS x hx), bools_turn h.ba ht (hm _ m3), bools_turn h.bi ht (hm _ m4), sets_turn h.be ht (hm _ m5), h.nodup, h.lod, h.lom⟩
theorem At.below {w w' : World} {lo d n : Nat} {m : Mp} {D : Dv} (h : At w lo d n m D) (hb : Below w.heap.size w w') : At w' lo d n m D :=
  h.turn (S := []) (Turn.of_below hb) (by simp) (by simp) (by simp)
theorem nums_turn {S : List Nat} {w w' : World} {a : Option Addr} {n cap : Nat} {l : List Nat} (h : Nums .u8 w a n cap l) (ht : Turn S w w') (hS : ∀ x ∈ S, ∀ off z, w.cell? ⟨x, off, none⟩ ≠ some (.int .u8 z)) : Nums .u8 w' a n cap l := by
  obtain ⟨h1, h2, h3, h4, h5⟩ := h
  refine ⟨h1, h2, h3, h4, fun j u hj => ?_⟩
  obtain ⟨b, o, rfl, hc⟩ := h5 j u hj
  refine ⟨b, o, rfl, ?_⟩
  obtain ⟨z, rfl⟩ : ∃ z, u = .int .u8 z := by
    obtain ⟨y, _, rfl⟩ := List.mem_map.1 (List.mem_of_getElem? hj)
    exact ⟨_, rfl⟩
  rw [World.cell?_of_block (w := w) (ht.block b (World.block_lt_of_cell? _ _ hc) fun hm => hS b hm _ _ hc)]
  exact hc
theorem nou8_cells {w : World} {x : Nat} {c : Array Value} {t : TypeId} (h : w.heap[x]? = some (.cells c t)) (hc : ∀ v ∈ c.toList, ∀ z, v ≠ .int .u8 z) (off : Nat) (z : Int) : w.cell? ⟨x, off, none⟩ ≠ some (.int .u8 z) := by
  intro e
  simp [World.cell?, h] at e
  exact hc _ (Array.mem_toList_iff.2 (Array.mem_of_getElem? e)) z rfl
theorem At.nou8 {w : World} {lo d n : Nat} {m : Mp} {D : Dv} (h : At w lo d n m D) : ∀ x ∈ own d m, ∀ off z, w.cell? ⟨x, off, none⟩ ≠ some (.int .u8 z) := by
  intro x hx off z
  rcases List.mem_cons.1 hx with rfl | hx
  · refine nou8_cells h.cells ?_ off z
    intro v hv z e
    subst e
    simp at hv
  · obtain ⟨es, ck, hb⟩ := h.maps x hx
    intro e
    simp [World.cell?, hb] at e
/-- a row is none of the device's blocks -/
theorem At.nerow {w : World} {lo d n : Nat} {m : Mp} {D : Dv} (h : At w lo d n m D) {g cap : Nat} {l : List Nat} (hl : Nums .u8 w (some ⟨g, 0, none⟩) 256 cap l) : g ≠ d := by
  rintro rfl
  obtain ⟨b', o', he, hc'⟩ := hl.at (j := 0) (by rw [hl.len]; decide)
  cases he
  rw [Nat.zero_add] at hc'
  exact h.nou8 g List.mem_cons_self 0 _ hc'
end Go.Proofs.YtcaocebgkahbmaaDoor.DevG

namespace Go.Proofs.YtcaocebgkahbmaaDoor.DevG
open Go Go.RowKit Go.Maps Go.Proofs.YtcaocebgkahbmaaDoor.Mem Go.Proofs.YtcaocebgkahbmaaDoor.MapsW Go.Proofs.YtcaocebgkahbmaaDoor.SeeW
set_option linter.unusedVariables false
set_option maxRecDepth 100000

abbrev ptr (d : Nat) : Value := .pointer (some ⟨d, 0, none⟩)
theorem At.c {w : World} {lo d n : Nat} {m : Mp} {D : Dv} (h : At w lo d n m D) :
    w.cell? ⟨d, 0, none⟩ = some (.int .i64 D.blocks) ∧ w.cell? ⟨d, 1, none⟩ = some (.map (some m.f)) ∧ w.cell? ⟨d, 2, none⟩ = some (.map (some m.p)) ∧ w.cell? ⟨d, 3, none⟩ = some (.map (some m.a)) ∧
    w.cell? ⟨d, 4, none⟩ = some (.map (some m.i)) ∧ w.cell? ⟨d, 5, none⟩ = some (.map (some m.e)) ∧ w.cell? ⟨d, 6, none⟩ = some (.int .i64 D.calls) ∧ w.cell? ⟨d, 7, none⟩ = some (.int .i64 D.fuse) ∧ w.cell? ⟨d, 8, none⟩ = some (.bool D.down) ∧
    w.frozen? ⟨d, 6, none⟩ = false ∧ w.frozen? ⟨d, 2, none⟩ = false ∧ w.frozen? ⟨d, 7, none⟩ = false ∧ w.frozen? ⟨d, 8, none⟩ = false := by
  have := h.cells
  simp [World.cell?, World.frozen?, this]

theorem blocks_w (d lo n : Nat) (m : Mp) (D : Dv) (w : World) (h : At w lo d n m D) :
    Calls Tryd.prog 33 #[ptr d] w fun e w' => e = .returned (.int .i64 D.blocks) ∧ w = w' := by
  obtain ⟨c0, c1, c2, c3, c4, c5, c6, c7, c8, f6, f2, f7, f8⟩ := h.c
  go_enter Tryd.func33, Tryd.ntmps33
  go_wp2
  go_ret
  exact ⟨rfl, rfl⟩

theorem is_w (d lo n : Nat) (m : Mp) (D : Dv) (i : Int) (w : World) (h : At w lo d n m D) (hi : Fits i) :
    Calls Tryd.prog 68 #[ptr d, .int .i64 i] w fun e w' => e = .returned (.bool (decide (0 ≤ i ∧ i < D.blocks))) ∧ w = w' := by
  obtain ⟨c0, c1, c2, c3, c4, c5, c6, c7, c8, f6, f2, f7, f8⟩ := h.c
  clear h
  by_cases h0 : 0 ≤ i
  · by_cases h1 : i < D.blocks
    · go_enter Tryd.func68, Tryd.ntmps68
      go_wp2
      go_ret
      exact ⟨ret_bool (by simp [h0, h1]), rfl⟩
    · have h2 : decide (i < (D.blocks : Int)) = false := decide_eq_false h1
      go_enter Tryd.func68, Tryd.ntmps68
      go_wp2
      go_ret
      exact ⟨ret_bool (by simp), rfl⟩
  · have h2 : decide ((0 : Int) ≤ i) = false := decide_eq_false h0
    go_enter Tryd.func68, Tryd.ntmps68
    go_wp2
    go_ret
    exact ⟨ret_bool (by simp), rfl⟩

/-- the cells of a device written -/
theorem At.recell {w w' : World} {lo d n : Nat} {m : Mp} {D : Dv} (h : At w lo d n m D) (ht : Turn [d] w w') (c f : Nat) (b : Bool)
    (hc : w'.heap[d]? = some (.cells (cellsOf m { D with calls := c, fuse := f, down := b }) 54)) : At w' lo d n m { D with calls := c, fuse := f, down := b } := by
  have hne : ∀ x ∈ m.list, x ∉ [d] := by
    intro x hx hm
    rw [List.mem_singleton] at hm
    subst hm
    obtain ⟨es, ck, h3⟩ := h.maps x hx
    rw [h.cells] at h3
    cases h3
  obtain ⟨k, hk⟩ := h.rf
  have hS : ∀ x ∈ [d], x < 0 ∨ NoCells w x ∨ ∃ v, w.cell? ⟨x, 0, none⟩ = some v ∧ ∀ z, v ≠ .int .u8 z := by
    intro x hx
    rw [List.mem_singleton.1 hx]
    exact .inr (.inr ⟨_, h.c.1, fun z e => by cases e⟩)
  have mm : m.f ∈ m.list ∧ m.p ∈ m.list ∧ m.a ∈ m.list ∧ m.i ∈ m.list ∧ m.e ∈ m.list := by simp [Mp.list]
  obtain ⟨m1, m2, m3, m4, m5⟩ := mm
  exact ⟨hc, ⟨k, rows_turn hk ht (hne _ m1) hS⟩, rows_turn h.rp ht (hne _ m2) hS, bools_turn h.ba ht (hne _ m3), bools_turn h.bi ht (hne _ m4), sets_turn h.be ht (hne _ m5), h.nodup, h.lod, h.lom⟩
theorem At.setFuse {w : World} {lo d n : Nat} {m : Mp} {D : Dv} (h : At w lo d n m D) (f : Nat) : At (w.setCell ⟨d, 7, none⟩ (.int .i64 f)) lo d n m { D with fuse := f } :=
  h.recell (Turn.setCell w d 7 _ (by simp)) D.calls f D.down (by have := h.cells; simp [World.setCell, Array.getElem?_modify, this])
theorem At.setDown {w : World} {lo d n : Nat} {m : Mp} {D : Dv} (h : At w lo d n m D) (b : Bool) : At (w.setCell ⟨d, 8, none⟩ (.bool b)) lo d n m { D with down := b } :=
  h.recell (Turn.setCell w d 8 _ (by simp)) D.calls D.fuse b (by have := h.cells; simp [World.setCell, Array.getElem?_modify, this])
/-- a call that changes something: the fuse burns down -/
def Dv.tick (D : Dv) : Dv := if !D.down && decide (0 < D.fuse) then { D with fuse := D.fuse - 1, down := decide (D.fuse = 1) } else D
theorem Dv.tick_down {D : Dv} (h : D.down = true) : D.tick = D := by unfold Dv.tick; rw [h]; rfl
theorem Dv.tick_zero {D : Dv} (h : D.fuse = 0) : D.tick = D := by
  unfold Dv.tick; rw [h]; simp
theorem Dv.tick_some {D : Dv} (h : D.down = false) (h2 : 0 < D.fuse) : D.tick = { D with fuse := D.fuse - 1, down := decide (D.fuse = 1) } := by
  unfold Dv.tick; rw [h, decide_eq_true h2]; rfl
theorem Dv.tick_same (D : Dv) : D.tick.blocks = D.blocks ∧ D.tick.fl = D.fl ∧ D.tick.pe = D.pe ∧ D.tick.fa = D.fa ∧ D.tick.fi = D.fi ∧ D.tick.ev = D.ev ∧ D.tick.np = D.np ∧ D.tick.ne = D.ne ∧ D.tick.calls = D.calls ∧ D.tick.fuse ≤ D.fuse := by
  unfold Dv.tick
  split
  · exact ⟨rfl, rfl, rfl, rfl, rfl, rfl, rfl, rfl, rfl, Nat.sub_le ..⟩
  · exact ⟨rfl, rfl, rfl, rfl, rfl, rfl, rfl, rfl, rfl, Nat.le_refl _⟩
theorem gone_w (d lo n : Nat) (m : Mp) (D : Dv) (w : World) (h : At w lo d n m D) (hz : D.fuse ≤ 9223372036854775807) :
    Calls Tryd.prog 71 #[ptr d] w fun e w' => e = .returned (.bool D.tick.down) ∧ At w' lo d n m D.tick ∧ Turn [d] w w' := by
  obtain ⟨c0, c1, c2, c3, c4, c5, c6, c7, c8, f6, f2, f7, f8⟩ := h.c
  cases hd : D.down
  · rw [hd] at c8
    by_cases hf : 0 < D.fuse
    · have h1 := h.setFuse (D.fuse - 1)
      have h2 := h1.setDown (decide (D.fuse = 1))
      have e1 : (((D.fuse - 1 : Nat) : Int)) = (D.fuse : Int) - 1 := by omega
      rw [Dv.tick_some hd hf]
      rw [e1] at h1 h2
      have t1 : Turn [d] w (w.setCell ⟨d, 7, none⟩ (.int .i64 ((D.fuse : Int) - 1))) := Turn.setCell w d 7 _ (by simp)
      by_cases h1f : D.fuse = 1
      · have e2 : decide (D.fuse = 1) = true := decide_eq_true h1f
        have e3 : decide ((D.fuse : Int) - 1 = 0) = true := decide_eq_true (by omega)
        have e4 : ((D.fuse : Int) - 1 == 0) = true := by rw [beq_iff_eq]; omega
        rw [e2] at h2 ⊢
        obtain ⟨z0, z1, z2, z3, z4, z5, z6, z7, z8, g6, g2, g7, g8⟩ := h1.c
        obtain ⟨y0, y1, y2, y3, y4, y5, y6, y7, y8, k6, k2, k7, k8⟩ := h2.c
        simp only [e1] at z7 y7
        simp only at y8
        have H2 := hid h2
        clear h1 h2 e1 e2 h1f
        go_enter Tryd.func71, Tryd.ntmps71
        go_wp2
        go_ret
        exact ⟨rfl, H2.out, t1.then (Turn.setCell _ d 8 _ (by simp))⟩
      · have e2 : decide (D.fuse = 1) = false := decide_eq_false h1f
        have e3 : decide ((D.fuse : Int) - 1 = 0) = false := decide_eq_false (by omega)
        have e4 : ((D.fuse : Int) - 1 == 0) = false := by rw [beq_eq_false_iff_ne]; omega
        rw [e2] at h2 ⊢
        obtain ⟨z0, z1, z2, z3, z4, z5, z6, z7, z8, g6, g2, g7, g8⟩ := h1.c
        obtain ⟨y0, y1, y2, y3, y4, y5, y6, y7, y8, k6, k2, k7, k8⟩ := h2.c
        simp only [e1] at z7 y7
        simp only at y8
        have H2 := hid h2
        clear h1 h2 e1 e2 h1f
        go_enter Tryd.func71, Tryd.ntmps71
        go_wp2
        go_ret
        exact ⟨rfl, H2.out, t1.then (Turn.setCell _ d 8 _ (by simp))⟩
    · have h0 : D.fuse = 0 := by omega
      rw [Dv.tick_zero h0, hd]
      rw [h0] at c7
      go_enter Tryd.func71, Tryd.ntmps71
      go_wp2
      go_ret
      exact ⟨rfl, h, Turn.refl _ _⟩
  · rw [hd] at c8
    rw [Dv.tick_down hd, hd]
    go_enter Tryd.func71, Tryd.ntmps71
    go_wp2
    go_ret
    exact ⟨rfl, h, Turn.refl _ _⟩

/-- what lies there for good -/
def keptOf (D : Dv) (i : Int) : List Nat := (D.fl i).getD (List.replicate 256 0)
set_option maxHeartbeats 800000 in
theorem kept_w (d lo n : Nat) (m : Mp) (D : Dv) (i : Int) (w : World) (h : At w lo d n m D) (hi : Fits i) :
    Calls Tryd.prog 69 #[ptr d, .int .i64 i] w fun e w' => ∃ g cap, e = .returned (.slice (some ⟨g, 0, none⟩) 256 cap) ∧ Nums .u8 w' (some ⟨g, 0, none⟩) 256 cap (keptOf D i) ∧ 0 ≤ g ∧ Below w.heap.size w w' := by
  obtain ⟨c0, c1, c2, c3, c4, c5, c6, c7, c8, f6, f2, f7, f8⟩ := h.c
  obtain ⟨k, hk⟩ := h.rf
  have hd := h.dlt
  cases hF : D.fl i with
  | none =>
    have hl := hk.look_none hi hF
    have e : keptOf D i = List.replicate 256 0 := by unfold keptOf; rw [hF]; rfl
    rw [e]
    clear h hk hF e
    go_enter Tryd.func69, Tryd.ntmps69
    go_wp2_with (at_make; go_must (refine wpList_mkn RefW.elU8 rfl _ _ rfl w.heap.size _ _ _ _ 256 rfl rfl rfl rfl (by decide) (by decide) (Nat.le_refl _) ?_); intro w1 hown1 hg1)
    go_ret
    rw [RefW.made_nums] at hown1
    exact ⟨_, _, rfl, OwnN.nums hown1, Nat.zero_le _, below_growns hg1 (Nat.le_refl _)⟩
  | some l =>
    obtain ⟨g, cap, hl, hn, hg⟩ := hk.look_some hi hF
    have e : keptOf D i = l := by unfold keptOf; rw [hF]; rfl
    rw [e]
    clear h hk hF e
    go_enter Tryd.func69, Tryd.ntmps69
    go_wp2
    go_ret
    exact ⟨_, _, rfl, hn, by omega, Below.refl _ _⟩
end Go.Proofs.YtcaocebgkahbmaaDoor.DevG

namespace Go.Proofs.YtcaocebgkahbmaaDoor.DevG
open Go Go.RowKit Go.Maps Go.Proofs.YtcaocebgkahbmaaDoor.Mem Go.Proofs.YtcaocebgkahbmaaDoor.MapsW Go.Proofs.YtcaocebgkahbmaaDoor.SeeW
set_option linter.unusedVariables false
set_option maxRecDepth 100000

theorem fits_nat {i : Nat} (h : i ≤ 1000000) : Fits (i : Int) := by unfold Fits; omega

theorem mem_own (d : Nat) (m : Mp) : d ∈ own d m ∧ m.f ∈ own d m ∧ m.p ∈ own d m ∧ m.a ∈ own d m ∧ m.i ∈ own d m ∧ m.e ∈ own d m := by simp [own, Mp.list]
theorem At.ne {w : World} {lo d n : Nat} {m : Mp} {D : Dv} (h : At w lo d n m D) : m.f ≠ d ∧ m.p ≠ d ∧ m.a ≠ d ∧ m.i ≠ d ∧ m.e ≠ d := by
  have h1 := h.maps
  have h2 := h.cells
  have : ∀ x ∈ m.list, x ≠ d := by
    intro x hx e
    obtain ⟨es, ck, h3⟩ := h1 x hx
    rw [e, h2] at h3
    cases h3
  exact ⟨this _ (by simp [Mp.list]), this _ (by simp [Mp.list]), this _ (by simp [Mp.list]), this _ (by simp [Mp.list]), this _ (by simp [Mp.list])⟩
theorem At.nd {w : World} {lo d n : Nat} {m : Mp} {D : Dv} (h : At w lo d n m D) : m.f ≠ m.p ∧ m.f ≠ m.a ∧ m.f ≠ m.i ∧ m.f ≠ m.e ∧ m.p ≠ m.a ∧ m.p ≠ m.i ∧ m.p ≠ m.e ∧ m.a ≠ m.i ∧ m.a ≠ m.e ∧ m.i ≠ m.e := by
  have := h.nodup
  simp [Mp.list] at this
  obtain ⟨⟨a, b, c, d⟩, ⟨e, f, g⟩, ⟨h, i⟩, j⟩ := this
  exact ⟨a, b, c, d, e, f, g, h, i, j⟩

/-- a map of it written -/
theorem At.putP {w w' : World} {lo d n np : Nat} {m : Mp} {D : Dv} {F : Int → Option (List Nat)} (h : At w lo d n m D) (hr : RowMap w' 0 m.p (n + 1) F np) (hg : w.grownBy w' (some m.p)) : At w' lo d (n + 1) m { D with pe := F, np := np } := by
  have ht : Turn [m.p] w w' := Turn.of_grown hg (by simp)
  obtain ⟨n1, n2, n3, n4, n5⟩ := h.ne
  obtain ⟨e1, e2, e3, e4, e5, e6, e7, e8, e9, e10⟩ := h.nd
  obtain ⟨k, hk⟩ := h.rf
  have hS : ∀ x ∈ [m.p], x < 0 ∨ NoCells w x ∨ ∃ v, w.cell? ⟨x, 0, none⟩ = some v ∧ ∀ z, v ≠ .int .u8 z := by
    intro x hx
    rw [List.mem_singleton.1 hx]
    exact .inr (.inl (nocells h.rp.block))
  exact ⟨ht.cells h.cells (by simp; omega), ⟨k, (rows_turn hk ht (by simp; exact e1) hS).mono (by omega) (Nat.le_refl _)⟩, hr, (bools_turn h.ba ht (by simp; omega)).mono (by omega), (bools_turn h.bi ht (by simp; omega)).mono (by omega), (sets_turn h.be ht (by simp; omega)).mono (by omega), h.nodup, h.lod, h.lom⟩
theorem At.putF {w w' : World} {lo d n np : Nat} {m : Mp} {D : Dv} {F : Int → Option (List Nat)} (h : At w lo d n m D) (hr : RowMap w' 0 m.f (n + 1) F np) (hg : w.grownBy w' (some m.f)) : At w' lo d (n + 1) m { D with fl := F } := by
  have ht : Turn [m.f] w w' := Turn.of_grown hg (by simp)
  obtain ⟨n1, n2, n3, n4, n5⟩ := h.ne
  obtain ⟨e1, e2, e3, e4, e5, e6, e7, e8, e9, e10⟩ := h.nd
  obtain ⟨k, hk⟩ := h.rf
  have hS : ∀ x ∈ [m.f], x < 0 ∨ NoCells w x ∨ ∃ v, w.cell? ⟨x, 0, none⟩ = some v ∧ ∀ z, v ≠ .int .u8 z := by
    intro x hx
    rw [List.mem_singleton.1 hx]
    exact .inr (.inl (nocells hk.block))
  exact ⟨ht.cells h.cells (by simp; omega), ⟨np, hr⟩, (rows_turn h.rp ht (by simp; omega) hS).mono (by omega) (Nat.le_refl _), (bools_turn h.ba ht (by simp; omega)).mono (by omega), (bools_turn h.bi ht (by simp; omega)).mono (by omega), (sets_turn h.be ht (by simp; omega)).mono (by omega), h.nodup, h.lod, h.lom⟩
theorem At.putA {w w' : World} {lo d n : Nat} {m : Mp} {D : Dv} {F : Int → Bool} (h : At w lo d n m D) (hr : BoolMap w' m.a (n + 1) F) (hg : w.grownBy w' (some m.a)) : At w' lo d (n + 1) m { D with fa := F } := by
  have ht : Turn [m.a] w w' := Turn.of_grown hg (by simp)
  obtain ⟨n1, n2, n3, n4, n5⟩ := h.ne
  obtain ⟨e1, e2, e3, e4, e5, e6, e7, e8, e9, e10⟩ := h.nd
  obtain ⟨k, hk⟩ := h.rf
  have hS : ∀ x ∈ [m.a], x < 0 ∨ NoCells w x ∨ ∃ v, w.cell? ⟨x, 0, none⟩ = some v ∧ ∀ z, v ≠ .int .u8 z := by
    intro x hx
    rw [List.mem_singleton.1 hx]
    exact .inr (.inl (nocells h.ba.block))
  exact ⟨ht.cells h.cells (by simp; omega), ⟨k, (rows_turn hk ht (by simp; omega) hS).mono (by omega) (Nat.le_refl _)⟩, (rows_turn h.rp ht (by simp; omega) hS).mono (by omega) (Nat.le_refl _), hr, (bools_turn h.bi ht (by simp; omega)).mono (by omega), (sets_turn h.be ht (by simp; omega)).mono (by omega), h.nodup, h.lod, h.lom⟩
theorem At.putI {w w' : World} {lo d n : Nat} {m : Mp} {D : Dv} {F : Int → Bool} (h : At w lo d n m D) (hr : BoolMap w' m.i (n + 1) F) (hg : w.grownBy w' (some m.i)) : At w' lo d (n + 1) m { D with fi := F } := by
  have ht : Turn [m.i] w w' := Turn.of_grown hg (by simp)
  obtain ⟨n1, n2, n3, n4, n5⟩ := h.ne
  obtain ⟨e1, e2, e3, e4, e5, e6, e7, e8, e9, e10⟩ := h.nd
  obtain ⟨k, hk⟩ := h.rf
  have hS : ∀ x ∈ [m.i], x < 0 ∨ NoCells w x ∨ ∃ v, w.cell? ⟨x, 0, none⟩ = some v ∧ ∀ z, v ≠ .int .u8 z := by
    intro x hx
    rw [List.mem_singleton.1 hx]
    exact .inr (.inl (nocells h.bi.block))
  exact ⟨ht.cells h.cells (by simp; omega), ⟨k, (rows_turn hk ht (by simp; omega) hS).mono (by omega) (Nat.le_refl _)⟩, (rows_turn h.rp ht (by simp; omega) hS).mono (by omega) (Nat.le_refl _), (bools_turn h.ba ht (by simp; omega)).mono (by omega), hr, (sets_turn h.be ht (by simp; omega)).mono (by omega), h.nodup, h.lod, h.lom⟩
theorem At.putE {w w' : World} {lo d n k : Nat} {m : Mp} {D : Dv} {F : Int → Bool} (h : At w lo d n m D) (hr : SetMap w' m.e (n + 1) F k) (hg : w.grownBy w' (some m.e)) : At w' lo d (n + 1) m { D with ev := F, ne := k } := by
  have ht : Turn [m.e] w w' := Turn.of_grown hg (by simp)
  obtain ⟨n1, n2, n3, n4, n5⟩ := h.ne
  obtain ⟨e1, e2, e3, e4, e5, e6, e7, e8, e9, e10⟩ := h.nd
  obtain ⟨k0, hk⟩ := h.rf
  have hS : ∀ x ∈ [m.e], x < 0 ∨ NoCells w x ∨ ∃ v, w.cell? ⟨x, 0, none⟩ = some v ∧ ∀ z, v ≠ .int .u8 z := by
    intro x hx
    rw [List.mem_singleton.1 hx]
    exact .inr (.inl (nocells h.be.block))
  exact ⟨ht.cells h.cells (by simp; omega), ⟨k0, (rows_turn hk ht (by simp; omega) hS).mono (by omega) (Nat.le_refl _)⟩, (rows_turn h.rp ht (by simp; omega) hS).mono (by omega) (Nat.le_refl _), (bools_turn h.ba ht (by simp; omega)).mono (by omega), (bools_turn h.bi ht (by simp; omega)).mono (by omega), hr, h.nodup, h.lod, h.lom⟩

/-- one more call -/
theorem At.count {w : World} {lo d n : Nat} {m : Mp} {D : Dv} (h : At w lo d n m D) (c : Nat) : At (w.setCell ⟨d, 6, none⟩ (.int .i64 c)) lo d n m { D with calls := c } :=
  h.recell (Turn.setCell w d 6 _ (by simp)) c D.fuse D.down (by have := h.cells; simp [World.setCell, Array.getElem?_modify, this])

/-- what one row is, of an owned slice -/
theorem row_of {w : World} {base : Nat} {v : Value} {l : List Nat} (h : w.ownsRow base 5 1 v 256 (nums .u8 l)) : ∃ g cap, v = .slice (some ⟨g, 0, none⟩) 256 cap ∧ Nums .u8 w (some ⟨g, 0, none⟩) 256 cap l ∧ base ≤ g := by
  obtain ⟨a, cap, rfl, hr⟩ := ownsRow_slice h
  obtain ⟨g, rfl⟩ := own_some h (by decide)
  exact ⟨g, cap, rfl, hr, (h.lt g rfl).1⟩

/-- what a device has behind a write -/
def Dv.put (D : Dv) (i : Int) (l : List Nat) : Dv := { D with pe := upd D.pe i (some l), np := if (D.pe i).isSome then D.np else D.np + 1, calls := D.calls + 1 }
/-- a write of n bytes: what is told, what the device has then -/
def Dv.write (D : Dv) (i : Int) (n : Nat) (l : List Nat) : Option Nat × Dv :=
  if D.tick.down then (some 5, D.tick) else if 0 ≤ i ∧ i < D.blocks then if n = 256 then (none, D.tick.put i l) else (some 1, D.tick) else (some 4, D.tick)

theorem own1 {d : Nat} {m : Mp} {w w' : World} (h : Turn [d] w w') : Turn (own d m) w w' := h.mono fun x hx => by rw [List.mem_singleton.1 hx]; exact (mem_own d m).1
set_option maxHeartbeats 1600000 in
theorem write_ok (d lo n : Nat) (m : Mp) (D : Dv) (i : Nat) (a : Option Addr) (cap : Nat) (l : List Nat) (w : World) (h : At w lo d n m D) (hi : i < D.blocks) (hb : D.blocks ≤ 6000) (hl : Nums .u8 w a 256 cap l) (hn : n < 100000) (hc : D.calls < 1000000) (hz : D.fuse ≤ 9223372036854775807) (hdn : D.tick.down = false) :
    Calls Tryd.prog 52 #[ptr d, .int .i64 i, .slice a 256 cap] w fun e w' => e = .returned .nilIface ∧ At w' lo d (n + 1) m (D.tick.put i l) ∧ Turn (own d m) w w' := by
  have hf : Fits (i : Int) := fits_nat (by omega)
  have htb := D.tick_same.1
  have htc := D.tick_same.2.2.2.2.2.2.2.2.1
  have hd : decide (0 ≤ (i : Int) ∧ (i : Int) < D.tick.blocks) = true := by rw [decide_eq_true_eq, htb]; omega
  go_enter Tryd.func52, Tryd.ntmps52
  go_wp2_with fail
  refine (gone_w d lo n m D _ h hz).mono ?_
  rintro e w0 ⟨rfl, h0, t0⟩
  rw [hdn]
  have hl0 := nums_turn hl (own1 (m := m) t0) h.nou8
  clear h hl
  have hdl := h0.dlt
  obtain ⟨c0, c1, c2, c3, c4, c5, c6, c7, c8, f6, f2, f7, f8⟩ := h0.c
  go_wp2_with fail
  refine (is_w d lo n m _ i _ h0 hf).mono ?_
  rintro e w' ⟨rfl, rfl⟩
  rw [hd]
  go_wp2_with fail
  go_region_held3 (fun w' => w'.cell? ⟨d, 2, none⟩ = some (.map (some m.p))) (first | exact c2 | exact x3 | exact x4 | go_keep)
    ((go_at_call 13; refine (RefW.clone_w a 256 cap l _ (Nums.below hl0 (below_drewN (Below.refl _ _) _)) (by decide)).mono ?_; rintro e w3 ⟨v, rfl, own3, hb3⟩; obtain ⟨g, gc, rfl, hg, hgb⟩ := row_of own3; have hgb' : w0.heap.size ≤ g := hgb; have h3 := (At.below h0 (below_drewN (Below.refl _ _) 1)).below hb3; obtain ⟨w4, hrun, hr4, hg4⟩ := RowMap.store h3.rp (by omega) hf hg (show 0 ≤ g by omega); have x3 := h3.c.2.2.1; have h4 := h3.putP hr4 hg4; have x4 := h4.c.2.2.1))
  have hT : Turn (own d m) w w4 := (own1 t0).then (((Turn.of_below (below_drewN (Below.refl _ w0) 1)).then (Turn.of_below hb3)).then (Turn.of_grown hg4 (mem_own d m).2.2.1))
  obtain ⟨z0, z1, z2, z3, z4, z5, z6, z7, z8, z9, z10, z11, z12⟩ := h4.c
  have H4 := hid h4
  clear h4 h3 h0 c0 c1 c2 c3 c4 c5 c6 c7 c8 f6 f2 f7 f8 x3 x4 hr4 hg4 hrun hg hgb hgb' own3 hb3 hl0
  simp only [htc] at z0 z1 z2 z3 z4 z5 z6 z7 z8
  go_wp2
  go_ret
  refine ⟨rfl, ?_, hT.then (Turn.setCell _ _ _ _ (mem_own d m).1)⟩
  have := H4.out.count (D.calls + 1)
  rw [show ((D.calls + 1 : Nat) : Int) = (D.calls : Int) + 1 by omega] at this
  unfold Dv.put
  rw [htc]
  exact this

theorem write_no (bs : List Addr) (d lo n : Nat) (m : Mp) (D : Dv) (i : Int) (a : Option Addr) (len cap : Nat) (w : World) (h : At w lo d n m D) (hB : Ev w lo bs five) (hz : D.fuse ≤ 9223372036854775807) (hf : Fits i) (k g : Nat) (hk : k ∈ five) (hg : SeeW.gl[k]? = some g)
    (hw : (D.tick.down = true ∧ k = 5) ∨ (D.tick.down = false ∧ ¬ (0 ≤ i ∧ i < D.blocks) ∧ k = 4) ∨ (D.tick.down = false ∧ (0 ≤ i ∧ i < D.blocks) ∧ len ≠ 256 ∧ k = 1)) :
    Calls Tryd.prog 52 #[ptr d, .int .i64 i, .slice a len cap] w fun e w' => (∃ a, bs[k]? = some a ∧ e = .returned (ev a)) ∧ At w' lo d n m D.tick ∧ Turn [d] w w' := by
  have htb := D.tick_same.1
  obtain ⟨aF, haF, hAF⟩ := hB.get k g hk hg
  rcases hw with ⟨hdn, rfl⟩ | ⟨hdn, hi, rfl⟩ | ⟨hdn, hi, hne, rfl⟩
  · cases hg
    go_enter Tryd.func52, Tryd.ntmps52
    go_wp2_with fail
    refine (gone_w d lo n m D _ h hz).mono ?_
    rintro e w0 ⟨rfl, h0, t0⟩
    rw [hdn]
    have hA1 := ((hB.turn t0 (fun x hx => by rw [List.mem_singleton.1 hx]; exact h.lod)).get 5 _ hk rfl)
    obtain ⟨a', ha', hA1, _⟩ := hA1
    obtain rfl := Option.some.inj (ha'.symm.trans haF)
    go_wp2
    go_ret
    exact ⟨⟨_, haF, rfl⟩, h0, t0⟩
  · cases hg
    have hd : decide (0 ≤ i ∧ i < D.tick.blocks) = false := by rw [decide_eq_false_iff_not, htb]; exact hi
    go_enter Tryd.func52, Tryd.ntmps52
    go_wp2_with fail
    refine (gone_w d lo n m D _ h hz).mono ?_
    rintro e w0 ⟨rfl, h0, t0⟩
    rw [hdn]
    have hA1 := ((hB.turn t0 (fun x hx => by rw [List.mem_singleton.1 hx]; exact h.lod)).get 4 _ hk rfl)
    obtain ⟨a', ha', hA1, _⟩ := hA1
    obtain rfl := Option.some.inj (ha'.symm.trans haF)
    go_wp2_with fail
    refine (is_w d lo n m _ i _ h0 hf).mono ?_
    rintro e w' ⟨rfl, rfl⟩
    rw [hd]
    clear hi
    go_wp2
    go_ret
    exact ⟨⟨_, haF, rfl⟩, h0, t0⟩
  · cases hg
    have hd : decide (0 ≤ i ∧ i < D.tick.blocks) = true := by rw [decide_eq_true_eq, htb]; exact hi
    have hx : ((len : Int) != 256) = true := by rw [bne_iff_ne]; omega
    go_enter Tryd.func52, Tryd.ntmps52
    go_wp2_with fail
    refine (gone_w d lo n m D _ h hz).mono ?_
    rintro e w0 ⟨rfl, h0, t0⟩
    rw [hdn]
    have hA1 := ((hB.turn t0 (fun x hx => by rw [List.mem_singleton.1 hx]; exact h.lod)).get 1 _ hk rfl)
    obtain ⟨a', ha', hA1, _⟩ := hA1
    obtain rfl := Option.some.inj (ha'.symm.trans haF)
    go_wp2_with fail
    refine (is_w d lo n m _ i _ h0 hf).mono ?_
    rintro e w' ⟨rfl, rfl⟩
    rw [hd]
    clear hi
    go_wp2
    go_ret
    exact ⟨⟨_, haF, rfl⟩, h0, t0⟩

/-- any write -/
theorem write_w (bs : List Addr) (d lo n : Nat) (m : Mp) (D : Dv) (i : Int) (a : Option Addr) (len cap : Nat) (l : List Nat) (w : World) (h : At w lo d n m D) (hB : Ev w lo bs five) (hf : Fits i) (hb : D.blocks ≤ 6000) (hl : Nums .u8 w a len cap l) (hn : n < 100000) (hc : D.calls < 1000000) (hz : D.fuse ≤ 9223372036854775807) :
    Calls Tryd.prog 52 #[ptr d, .int .i64 i, .slice a len cap] w fun e w' => (∃ v, Says bs (D.write i len l).1 v ∧ e = .returned v) ∧ At w' lo d (n + 1) m (D.write i len l).2 ∧ Turn (own d m) w w' := by
  have no : ∀ k g, k ∈ five → SeeW.gl[k]? = some g → ((D.tick.down = true ∧ k = 5) ∨ (D.tick.down = false ∧ ¬ (0 ≤ i ∧ i < D.blocks) ∧ k = 4) ∨ (D.tick.down = false ∧ (0 ≤ i ∧ i < D.blocks) ∧ len ≠ 256 ∧ k = 1)) →
      Calls Tryd.prog 52 #[ptr d, .int .i64 i, .slice a len cap] w fun e w' => (∃ v, Says bs (some k) v ∧ e = .returned v) ∧ At w' lo d (n + 1) m D.tick ∧ Turn (own d m) w w' := by
    intro k g hk hg hw
    refine (write_no bs d lo n m D i a len cap w h hB hz hf k g hk hg hw).mono ?_
    rintro e w' ⟨⟨aa, h1, rfl⟩, h2, h3⟩
    exact ⟨⟨_, ⟨aa, h1, rfl⟩, rfl⟩, h2.mono (by omega) (Nat.le_refl _), own1 h3⟩
  unfold Dv.write
  by_cases h1 : D.tick.down = true
  · rw [if_pos h1]
    exact no 5 _ (by decide) rfl (.inl ⟨h1, rfl⟩)
  · have h1' : D.tick.down = false := by simpa using h1
    rw [if_neg h1]
    by_cases h2 : 0 ≤ i ∧ i < D.blocks
    · rw [if_pos h2]
      by_cases h3 : len = 256
      · subst h3
        rw [if_pos rfl]
        obtain ⟨j, rfl⟩ := Int.eq_ofNat_of_zero_le h2.1
        refine (write_ok d lo n m D j a cap l w h (by omega) hb hl hn hc hz h1').mono ?_
        rintro e w' ⟨rfl, h4, h5⟩
        exact ⟨⟨_, rfl, rfl⟩, h4, h5⟩
      · rw [if_neg h3]
        exact no 1 _ (by decide) rfl (.inr (.inr ⟨h1', h2, h3, rfl⟩))
    · rw [if_neg h2]
      exact no 4 _ (by decide) rfl (.inr (.inl ⟨h1', h2, rfl⟩))

/-- what a device has behind a fault -/
def Dv.fault (D : Dv) (i : Int) : Dv := { D with fa := upd D.fa i true, ev := upd D.ev i true, ne := if D.ev i then D.ne else D.ne + 1 }
/-- what a device has when a block is laid down for good -/
def Dv.lay (D : Dv) (i : Int) (l : List Nat) : Dv := { D with fl := upd D.fl i (some l), fa := upd D.fa i false, fi := upd D.fi i false }
theorem At.delA {w w' : World} {lo d n : Nat} {m : Mp} {D : Dv} {F : Int → Bool} (h : At w lo d n m D) (hr : BoolMap w' m.a n F) (hg : w.grownBy w' (some m.a)) : At w' lo d (n + 1) m { D with fa := F } := h.putA (hr.mono (by omega)) hg
theorem At.delI {w w' : World} {lo d n : Nat} {m : Mp} {D : Dv} {F : Int → Bool} (h : At w lo d n m D) (hr : BoolMap w' m.i n F) (hg : w.grownBy w' (some m.i)) : At w' lo d (n + 1) m { D with fi := F } := h.putI (hr.mono (by omega)) hg
set_option maxHeartbeats 1600000 in
theorem lay_w (d lo n : Nat) (m : Mp) (D : Dv) (i : Int) (g cap : Nat) (l : List Nat) (w : World) (h : At w lo d n m D) (hf : Fits i) (hl : Nums .u8 w (some ⟨g, 0, none⟩) 256 cap l) (hg : 0 ≤ g) (hn : n < 100000) :
    Calls Tryd.prog 75 #[ptr d, .int .i64 i, .slice (some ⟨g, 0, none⟩) 256 cap] w fun e w' => e = .returned (.tuple #[]) ∧ At w' lo d (n + 3) m (D.lay i l) ∧ Turn [m.f, m.a, m.i] w w' := by
  obtain ⟨c0, c1, c2, c3, c4, c5, c6, c7, c8, f6, f2, f7, f8⟩ := h.c
  obtain ⟨k, hk⟩ := h.rf
  go_enter Tryd.func75, Tryd.ntmps75
  go_wp2_with (first
    | (at_mapUpdate; refine wpList_putRow _ rfl _ _ _ rfl hk (by omega) hf hl (by omega) rfl rfl rfl ?_; intro w1 hr1 hg1; have h1 := h.putF hr1 hg1; obtain ⟨z0, z1, z2, z3, z4, z5, z6, z7, z8, z9, z10, z11, z12⟩ := h1.c)
    | (at_delete; refine wpList_delBool _ rfl _ _ rfl h1.ba hf rfl rfl ?_; intro w2 hr2 hg2; have h2 := h1.delA hr2 hg2; obtain ⟨y0, y1, y2, y3, y4, y5, y6, y7, y8, y9, y10, y11, y12⟩ := h2.c)
    | (at_delete; refine wpList_delBool _ rfl _ _ rfl h2.bi hf rfl rfl ?_; intro w3 hr3 hg3))
  refine bodyPost_end (v := .tuple #[]) (by simp [results, Tryd.results75, go_sem]) rfl ?_
  exact ⟨rfl, h2.delI hr3 hg3, ((Turn.of_grown hg1 (by simp)).then (Turn.of_grown hg2 (by simp))).then (Turn.of_grown hg3 (by simp))⟩

/-- a block may be faulted -/
def Dv.may (D : Dv) (i : Int) : Bool := decide (0 ≤ i ∧ i < D.blocks) && (!(D.pe i).isSome && !D.fa i)
end Go.Proofs.YtcaocebgkahbmaaDoor.DevG
