/- Memory, as the walks of this seat speak of it: a slice that reads as a list; what stays when blocks are made; The walks of package breviaryref that many laws use: bytes copied, held against one another; Maps keyed by an int: of rows of bytes, of bools; Sets: maps of bools that hold what is true alone; how many; What a row's listed error variables give a walk: each variable holds a pointer of its own. -/
import Derived.WalkKit
import Derived.WalkSmall
import Derived.Laws.AppendOwnNone
import Derived.Laws.CopyOwn
import Derived.Test.YtbjfgdahfpfgdaaGreatDoorProg
import Derived.Deep.DeepMust
import Derived.Deep.QuietTactic
import Derived.BigQuiet
import Derived.WalkSpells
import Derived.Maps.OwnOps
import Derived.Maps.OwnSet
import Derived.Maps.RangeWalk
import Derived.Maps.Ext
import Derived.LaidLaws
import Derived.LaidMore
import Derived.LaidHandle
import Derived.MakeChecks
import Derived.Stop.LaidErr
import Derived.KernelRfl
import Derived.Below
namespace Go.Proofs.YtbjfgdahfpfgdaaGreatDoor.Mem
open Go Go.RowKit

/-- a slice's n elements, 'size' cells each, are the cells xs -/
def Row (w : World) (size : Nat) (a : Option Addr) (n cap : Nat) (xs : List Value) : Prop :=
  xs.length = n * size ∧ n ≤ cap ∧ cap ≤ maxLen ∧ (a = none → cap = 0) ∧
    ∀ j u, xs[j]? = some u → ∃ b off, a = some ⟨b, off, none⟩ ∧ w.cell? ⟨b, off + j, none⟩ = some u

/-- a fact kept from the walk -/
theorem hid {p : Prop} (h : p) : Hid p := h
theorem ret_bool {a b : Bool} (h : a = b) : Ending.returned (.bool a) = .returned (.bool b) := by rw [h]
theorem ret_int {k : IntKind} {a b : Int} (h : a = b) : Ending.returned (.int k a) = .returned (.int k b) := by rw [h]
/-- numbers of a kind as cells -/
def nums (k : IntKind) (l : List Nat) : List Value := l.map fun (x : Nat) => .int k (x : Int)

/-- a slice of numbers -/
def Nums (k : IntKind) (w : World) (a : Option Addr) (n cap : Nat) (l : List Nat) : Prop := Row w 1 a n cap (nums k l)

theorem nums_length (k : IntKind) (l : List Nat) : (nums k l).length = l.length := by simp [nums]
theorem nums_get {k : IntKind} {l : List Nat} {j : Nat} (h : j < l.length) : (nums k l)[j]? = some (.int k ((l[j] : Nat) : Int)) := by simp [nums, h]

theorem Row.keep {w w' : World} {size : Nat} {a : Option Addr} {n cap : Nat} {xs : List Value} (h : Row w size a n cap xs)
    (hk : ∀ b o, a = some ⟨b, o, none⟩ → b < w.heap.size → w'.heap[b]? = w.heap[b]?) : Row w' size a n cap xs := by
  obtain ⟨h1, h2, h3, h4, h5⟩ := h
  refine ⟨h1, h2, h3, h4, fun j u hj => ?_⟩
  obtain ⟨b, off, ha, hc⟩ := h5 j u hj
  refine ⟨b, off, ha, ?_⟩
  have hlt := World.block_lt_of_cell? w ⟨b, off + j, none⟩ hc
  rw [World.cell?_of_block (w := w) (hk b off ha hlt)]
  exact hc
theorem Row.below {w w' : World} {size : Nat} {a : Option Addr} {n cap : Nat} {xs : List Value} (h : Row w size a n cap xs)
    (hb : Below w.heap.size w w') : Row w' size a n cap xs := h.keep fun b _ _ hlt => hb.block b hlt
theorem Nums.below {k : IntKind} {w w' : World} {a : Option Addr} {n cap : Nat} {l : List Nat} (h : Nums k w a n cap l)
    (hb : Below w.heap.size w w') : Nums k w' a n cap l := Row.below h hb
theorem Nums.len {k : IntKind} {w : World} {a : Option Addr} {n cap : Nat} {l : List Nat} (h : Nums k w a n cap l) : l.length = n := by
  have := h.1; rw [nums_length] at this; omega
theorem Nums.bound {k : IntKind} {w : World} {a : Option Addr} {n cap : Nat} {l : List Nat} (h : Nums k w a n cap l) : n ≤ cap ∧ cap ≤ 9223372036854775807 := by
  have := h.2.2.1; unfold maxLen at this; exact ⟨h.2.1, by omega⟩
/-- an element is a cell -/
theorem Nums.at {k : IntKind} {w : World} {a : Option Addr} {n cap : Nat} {l : List Nat} (h : Nums k w a n cap l) {j : Nat} (hj : j < l.length) :
    ∃ b off, a = some ⟨b, off, none⟩ ∧ w.cell? ⟨b, off + j, none⟩ = some (.int k ((l[j] : Nat) : Int)) := h.2.2.2.2 j _ (nums_get hj)
theorem Nums.take {k : IntKind} {w : World} {a : Option Addr} {n cap : Nat} {l : List Nat} (h : Nums k w a n cap l) {m : Nat} (hm : m ≤ n) : Nums k w a m cap (l.take m) := by
  have hl := h.len
  obtain ⟨h1, h2, h3, h4, h5⟩ := h
  refine ⟨by rw [nums_length, List.length_take]; omega, by omega, h3, h4, fun j u hj => ?_⟩
  refine h5 j u ?_
  have : nums k (l.take m) = (nums k l).take m := by simp [nums, List.map_take]
  rw [this, List.getElem?_take] at hj
  split at hj
  · exact hj
  · simp at hj
theorem Nums.nil (k : IntKind) (w : World) : Nums k w none 0 0 [] := ⟨rfl, Nat.le_refl _, Nat.zero_le _, fun _ => rfl, fun j u h => by simp [nums] at h⟩

theorem Row.owned {w : World} {base : Nat} {e : TypeId} {size : Nat} {a : Option Addr} {n cap m : Nat} {xs : List Value}
    (h : w.ownsRow base e size (.slice a n cap) m xs) : n = m ∧ Row w size a n cap xs := by
  have hc := fun g hg => World.ownsRow.cells h (g := g) hg
  obtain ⟨h1, h2⟩ := h
  rcases h2 with ⟨hv, h0⟩ | ⟨g, c, cur, hv, _, hg, h3, h4, h5, h6⟩
  · cases hv
    subst h0
    have : xs = [] := by simpa using h1
    subst this
    exact ⟨rfl, by simp, Nat.le_refl _, Nat.zero_le _, fun _ => rfl, fun j u h => by simp at h⟩
  · cases hv
    refine ⟨rfl, h1, h3, h4, fun h => by simp at h, fun j u hj => ⟨g, 0, rfl, ?_⟩⟩
    have := hc g rfl j u hj
    have ea : (⟨g, 0, none⟩ : Addr).add j = ⟨g, 0 + j, none⟩ := by unfold Addr.add; split <;> simp_all
    rw [ea] at this
    exact this

theorem Row.cell {w : World} {size : Nat} {b off n cap : Nat} {xs : List Value} (h : Row w size (some ⟨b, off, none⟩) n cap xs) {j : Nat} {u : Value} (hj : xs[j]? = some u) :
    w.cell? ⟨b, off + j, none⟩ = some u := by
  obtain ⟨b', off', he, hc⟩ := h.2.2.2.2 j u hj
  cases he
  exact hc
theorem Row.one {w : World} {g : Nat} {u : Value} (h : w.cell? ⟨g, 0, none⟩ = some u) : Row w 1 (some ⟨g, 0, none⟩) 1 1 [u] := by
  refine ⟨rfl, Nat.le_refl _, by decide, fun h => by simp at h, fun j v hj => ⟨g, 0, rfl, ?_⟩⟩
  match j, hj with
  | 0, hj => simp at hj; subst hj; exact h
  | j + 1, hj => simp at hj

/-- the types of a slice: its own, its element's; a zero element, in cells and bytes -/
structure El (P : Program) (t e : TypeId) (z : Value) (size bytes : Nat) : Prop where
  ht : P.underlying t = some (.slice e)
  hi : (P.info? e).map (fun i => (i.zero, i.size, i.bytes)) = some (some z, size, bytes)
  hz : z.cells.size = size
  h0 : 0 < size

theorem nums_oneCell (k : IntKind) (l : List Nat) : ∀ u ∈ nums k l, u.oneCell' = true := by
  intro u hu
  simp only [nums, List.mem_map] at hu
  obtain ⟨x, _, rfl⟩ := hu
  rfl

/-- append to a slice of one's own, of whatever row -/
theorem wpList_app {P : Program} {t e : TypeId} {z : Value} {size bytes : Nat} (E : El P t e z size bytes) {w : World} {ops : Array Oper} {rest : List Oper} {o : Oper} {a : Act} {Q : Exit → Act → World → Prop}
    (hg : o.guard = none) (s x : Operand) (hop : o.op = .call { callee := .builtin .append, args := #[s, x], argTypes := #[t, t] })
    (base : Nat) (v : Value) (n : Nat) (xs : List Value) (hs : a.eval s = v) (hown : w.ownsRow base e size v n xs)
    (ao : Option Addr) (m c : Nat) (ys : List Value) (hx : a.eval x = .slice ao m c) (hy : Row w size ao m c ys) (h1 : ∀ u ∈ ys, u.oneCell' = true)
    (h63 : n + m ≤ maxLen) (hbytes : (n + m) * bytes ≤ 140737488355328) (hbase : base ≤ w.heap.size)
    (h : ∀ v' w', w'.ownsRow base e size v' (n + m) (xs ++ ys) → Below base w w' → w.grownBy w' v.ownBlock → wpList P ops Q rest (a.put o.dst v') w') : wpList P ops Q (o :: rest) a w := by
  obtain ⟨i, hi, hz0, hz1, hz2⟩ := info_parts E.hi
  cases ao with
  | none =>
    have hc := hy.2.2.2.1 rfl
    have hm : m = 0 := by have := hy.2.1; omega
    subst hc; subst hm
    have hys : ys = [] := List.eq_nil_of_length_eq_zero (by have := hy.1; simpa using this)
    subst hys
    refine wpList_append_own_none hg s x t hop base e i size E.ht hi v n xs hs hown hx ?_
    exact h v w (by simpa using hown) (Below.refl _ _) (World.grownBy.refl _ _)
  | some ad =>
    refine wpList_append_own w hg s x t hop base e i z size bytes E.ht hi hz0 hz1 hz2 E.hz E.h0 v n xs hs hown ad m c ys hx hy.1 ?_ h1 h63 hbytes hbase (fun v' w' h2 h3 _ => h v' w' h2 ((Below.refl _ _).grown h3 hbase fun b hb => (hown.lt b hb).1) h3)
    intro j u hj
    obtain ⟨b, off, ha, hc⟩ := hy.2.2.2.2 j u hj
    cases ha
    rw [Addr.add_lit]
    exact hc

/-- append of one element of one cell, laid in a new block -/
theorem wpList_push {P : Program} {t e : TypeId} {z : Value} {bytes : Nat} (E : El P t e z 1 bytes) {w : World} {ops : Array Oper} {rest : List Oper} {o : Oper} {a : Act} {Q : Exit → Act → World → Prop}
    (hg : o.guard = none) (s x : Operand) (hop : o.op = .call { callee := .builtin .append, args := #[s, x], argTypes := #[t, t] })
    (base : Nat) (v : Value) (n : Nat) (xs : List Value) (hs : a.eval s = v) (hown : w.ownsRow base e 1 v n xs)
    (g : Nat) (u : Value) (hx : a.eval x = .slice (some ⟨g, 0, none⟩) 1 1) (hc : w.cell? ⟨g, 0, none⟩ = some u) (h1 : u.oneCell' = true)
    (h63 : n + 1 ≤ maxLen) (hbytes : (n + 1) * bytes ≤ 140737488355328) (hbase : base ≤ w.heap.size)
    (h : ∀ v' w', w'.ownsRow base e 1 v' (n + 1) (xs ++ [u]) → Below base w w' → w.grownBy w' v.ownBlock → wpList P ops Q rest (a.put o.dst v') w') : wpList P ops Q (o :: rest) a w :=
  wpList_app E hg s x hop base v n xs hs hown _ 1 1 [u] hx (Row.one hc) (fun x hx => by simp at hx; subst hx; exact h1) h63 hbytes hbase h

/-- make([]T, n) -/
theorem wpList_mkn {P : Program} {t e : TypeId} {z : Value} {size bytes : Nat} (E : El P t e z size bytes) {w : World} {ops : Array Oper} {rest : List Oper} {o : Oper} {a : Act} {Q : Exit → Act → World → Prop}
    (hg : o.guard = none) (l c : Operand) (hop : o.op = Op.makeSlice t l c)
    (base : Nat) (kl kc : IntKind) (L C : Int) (n : Nat) (hl : a.eval l = .int kl L) (hc : a.eval c = .int kc C) (hL : L = (n : Int)) (hC : C = (n : Int)) (b2 : bytes * n ≤ 281474976710656) (b3 : n ≤ maxLen) (b4 : base ≤ w.heap.size)
    (hK : ∀ w', w'.ownsRow base e size (.slice (some ⟨w.heap.size, 0, none⟩) n n) n (madeCells z.cells (n * size)).toList → w.grownBy w' none → wpList P ops Q rest (a.put o.dst (.slice (some ⟨w.heap.size, 0, none⟩) n n)) w') :
    wpList P ops Q (o :: rest) a w := by
  obtain ⟨i, hi, hz0, hz1, hz2⟩ := info_parts E.hi
  exact wpList_make_full w hg l c t hop base e i z size E.ht hi hz0 hz1 kl kc L C n hl hc hL hC (by rw [hz2]; exact b2) b3 b4 hK

/-- what is owned reads on, behind what wrote elsewhere -/
theorem ownsRow_below {w w' : World} {base : Nat} {e : TypeId} {size : Nat} {v : Value} {n : Nat} {xs : List Value} (h : w.ownsRow base e size v n xs) (hb : Below w.heap.size w w') :
    w'.ownsRow base e size v n xs := h.kept (row := none) ⟨hb.os, hb.tape, hb.output, hb.size, fun k hk _ => hb.block k hk⟩ (by cases v.ownBlock <;> simp)
/-- what one owns from a base on one owns from a lower one on -/
theorem ownsRow_base {w : World} {base base' : Nat} {e : TypeId} {size : Nat} {v : Value} {n : Nat} {xs : List Value} (h : w.ownsRow base e size v n xs) (hb : base' ≤ base) :
    w.ownsRow base' e size v n xs := by
  obtain ⟨h1, h2⟩ := h
  refine ⟨h1, ?_⟩
  rcases h2 with h2 | ⟨g, cap, cur, hv, hg, r⟩
  · exact .inl h2
  · exact .inr ⟨g, cap, cur, hv, Nat.le_trans hb hg, r⟩
/-- a slice of one's own is a slice -/
theorem ownsRow_slice {w : World} {base : Nat} {e : TypeId} {size : Nat} {v : Value} {n : Nat} {xs : List Value} (h : w.ownsRow base e size v n xs) :
    ∃ a cap, v = .slice a n cap ∧ Row w size a n cap xs := by
  have h' := h
  obtain ⟨_, h2⟩ := h'
  rcases h2 with ⟨rfl, rfl⟩ | ⟨g, cap, cur, rfl, _⟩
  · exact ⟨none, 0, rfl, (Row.owned h).2⟩
  · exact ⟨_, cap, rfl, (Row.owned h).2⟩
/-- where there is an element there is a block -/
theorem own_some {w : World} {base : Nat} {e : TypeId} {size : Nat} {a : Option Addr} {n cap : Nat} {xs : List Value} (h : w.ownsRow base e size (.slice a n cap) n xs) (hn : 0 < n) :
    ∃ g, a = some ⟨g, 0, none⟩ := by
  rcases h.2 with ⟨_, h0⟩ | ⟨g, c, cur, hv, _⟩
  · omega
  · cases hv; exact ⟨g, rfl⟩
/-- a cell that a call has kept -/
theorem keep {B : Nat} {w w' : World} {b o : Nat} {v : Value} (hb : Below B w w') (h : w.cell? ⟨b, o, none⟩ = some v) (hlt : b < B) : w'.cell? ⟨b, o, none⟩ = some v := by
  rw [hb.cell (p := ⟨b, o, none⟩) hlt]; exact h
theorem kept {w w' : World} {b o : Nat} {v : Value} (hb : Below w.heap.size w w') (h : w.cell? ⟨b, o, none⟩ = some v) : w'.cell? ⟨b, o, none⟩ = some v :=
  keep hb h (World.block_lt_of_cell? w _ h)
theorem new2 (w : World) (x y : Value) (t : TypeId) : (w.alloc (.cells #[x, y] t)).cell? ⟨w.heap.size, 0, none⟩ = some x ∧ (w.alloc (.cells #[x, y] t)).cell? ⟨w.heap.size, 1, none⟩ = some y := by
  constructor <;> simp
theorem below_put {B : Nat} {a w : World} (h : Below B a w) (hB : B ≤ w.heap.size) {w' : World} (o : Obj) (k : Below (w.alloc o).heap.size (w.alloc o) w') : Below B a w' :=
  (h.alloc hB o).trans (k.mono (by simp; omega))
theorem below_growns {B : Nat} {w w' : World} (h : w.grownBy w' none) (hB : B ≤ w.heap.size) : Below B w w' :=
  (Below.refl B w).grown h hB (fun k h => by cases h)

theorem Row.fresh2 (w : World) (a b : Value) (e : TypeId) : Row (w.alloc (.cells #[a, b] e)) 2 (some ⟨w.heap.size, 0, none⟩) 1 1 [a, b] := by
  refine ⟨rfl, Nat.le_refl _, by decide, fun h => by simp at h, fun j u hj => ⟨w.heap.size, 0, rfl, ?_⟩⟩
  rw [World.cell?_alloc_mark, Nat.zero_add]
  simpa using hj
theorem oneCell2 {a b : Value} (ha : a.oneCell' = true) (hb : b.oneCell' = true) : ∀ u ∈ [a, b], u.oneCell' = true := by
  intro u hu
  simp at hu
  rcases hu with rfl | rfl <;> assumption

/-- a row of numbers that one owns, at the head of block g -/
abbrev OwnN (w : World) (base : Nat) (e : TypeId) (k : IntKind) (g n cap : Nat) (l : List Nat) : Prop :=
  w.ownsRow base e 1 (.slice (some ⟨g, 0, none⟩) n cap) n (nums k l)
theorem OwnN.len {w : World} {base : Nat} {e : TypeId} {k : IntKind} {g n cap : Nat} {l : List Nat} (h : OwnN w base e k g n cap l) : l.length = n := by
  have := h.1; rw [nums_length] at this; omega
theorem OwnN.cell {w : World} {base : Nat} {e : TypeId} {k : IntKind} {g n cap : Nat} {l : List Nat} (h : OwnN w base e k g n cap l) {j : Nat} (hj : j < l.length) :
    w.cell? ⟨g, j, none⟩ = some (.int k ((l[j] : Nat) : Int)) := by
  have := h.len
  rw [World.ownsRow.cellAt h j (by omega), nums_get hj]
theorem OwnN.set {w : World} {base : Nat} {e : TypeId} {k : IntKind} {g n cap : Nat} {l : List Nat} (h : OwnN w base e k g n cap l) (j x : Nat) :
    OwnN (w.setCell ⟨g, j, none⟩ (.int k (x : Int))) base e k g n cap (l.set j x) := by
  have := (World.ownsRow.stored h j (.int k (x : Int))).1
  have e2 : nums k (l.set j x) = (nums k l).set j (.int k (x : Int)) := by simp [nums, List.map_set]
  show World.ownsRow _ _ _ _ _ _ _
  rw [e2]; exact this
theorem OwnN.nums {w : World} {base : Nat} {e : TypeId} {k : IntKind} {g n cap : Nat} {l : List Nat} (h : OwnN w base e k g n cap l) :
    Nums k w (some ⟨g, 0, none⟩) n cap l := (Row.owned h).2
theorem OwnN.lt {w : World} {base : Nat} {e : TypeId} {k : IntKind} {g n cap : Nat} {l : List Nat} (h : OwnN w base e k g n cap l) : base ≤ g ∧ g < w.heap.size :=
  World.ownsRow.lt h g rfl

/-- a block that has just been laid, read whole -/
theorem Row.fresh (w : World) (cs : Array Value) (e : TypeId) (fr : Nat × Nat) (n : Nat) (hn : n = cs.size) (hm : n ≤ maxLen) :
    Row (w.alloc (.cells cs e fr)) 1 (some ⟨w.heap.size, 0, none⟩) n n cs.toList := by
  subst hn
  refine ⟨by simp, Nat.le_refl _, hm, fun h => by simp at h, fun j u hj => ⟨w.heap.size, 0, rfl, ?_⟩⟩
  rw [World.cell?_alloc_mark, Nat.zero_add]
  simpa using hj

/-- a slice of integers that came in: nil, or a row of 'cap' cells, the numbers zs -/
def IsRow (k : IntKind) (w : World) (a : Option Addr) (len cap : Nat) (zs : List Int) : Prop :=
  (a = none ∧ len = 0 ∧ cap = 0 ∧ zs = []) ∨
  ∃ x, a = some x ∧ len ≤ cap ∧ cap ≤ maxLen ∧ zs.length = cap ∧ (∀ i, i < zs.length → w.cell? (x.add i) = some (.int k (zs.getD i 0))) ∧ ∀ n ∈ zs, (Lit.int k n).wf = true

theorem int_of {n : Int} (h : (Lit.int .i64 n).wf = true) : -9223372036854775808 ≤ n ∧ n ≤ 9223372036854775807 := by
  simp [Lit.wf, IntKind.min, IntKind.max, IntKind.signed, IntKind.bits] at h
  exact h

end Go.Proofs.YtbjfgdahfpfgdaaGreatDoor.Mem

namespace Go.Proofs.YtbjfgdahfpfgdaaGreatDoor.RefW
open Go Go.RowKit Go.Proofs.YtbjfgdahfpfgdaaGreatDoor.Mem
set_option linter.unusedVariables false
set_option maxRecDepth 100000

theorem elU8 : El Tryz.prog 35 5 (.int .u8 0) 1 1 := ⟨Tryz.underlying35, by kernel_rfl, rfl, by decide⟩

theorem take_snoc (l : List Nat) (k : Nat) (h : k < l.length) : l.take (k + 1) = l.take k ++ [l[k]] := by
  rw [List.take_succ_eq_append_getElem h]
theorem made_nums (k : IntKind) (n : Nat) : (madeCells (Value.int k 0).cells (n * 1)).toList = nums k (List.replicate n 0) := by
  rw [Nat.mul_one]
  show (madeCells #[Value.int k 0] n).toList = _
  rw [toList_madeCells_one]
  simp [nums]


theorem same_of_take {l m : List Nat} {k : Nat} (hl : k = l.length) (hm : k = m.length) (h : l.take k = m.take k) : l = m := by
  rwa [List.take_of_length_le (by omega), List.take_of_length_le (by omega)] at h

set_option maxHeartbeats 1600000 in
/-- two lists of bytes held against one another -/
theorem same_w (a : Option Addr) (n cap : Nat) (l : List Nat) (b : Option Addr) (m cap' : Nat) (l' : List Nat) (w : World) (h0 : Nums .u8 w a n cap l) (h1 : Nums .u8 w b m cap' l') :
    Calls Tryz.prog 20 #[.slice a n cap, .slice b m cap'] w fun e w' => e = .returned (.bool (decide (l = l'))) ∧ Below w.heap.size w w' := by
  have hbd0 := h0.bound
  have hbd1 := h1.bound
  have HL0 := hid h0.len
  have HL1 := hid h1.len
  obtain ⟨c1, c2⟩ := hbd0
  obtain ⟨c3, c4⟩ := hbd1
  by_cases hn : n = m
  · subst hn
    go_enter Tryz.func20, Tryz.ntmps20
    go_wp2
    go_loopw [5] (fun i wr => ∃ k : Nat, k ≤ n ∧ i = .int .i64 k ∧ l.take k = l'.take k ∧ Below w.heap.size w wr) (fun i _ => n - (RowKit.intOf i).toNat)
    case atStart => exact ⟨0, by omega, rfl, by simp, Below.refl _ _⟩
    case round =>
      obtain ⟨k, hk, rfl, hT, hb⟩ := hrel
      have HT := hid hT
      clear hT
      by_cases hlt : k < n
      · have hkl : k < l.length := by rw [HL0.out]; exact hlt
        have hkl' : k < l'.length := by rw [HL1.out]; exact hlt
        obtain ⟨b0, o0, rfl, hc0⟩ := (h0.below hb).at hkl
        obtain ⟨b1, o1, rfl, hc1⟩ := (h1.below hb).at hkl'
        have HS0 := hid (List.take_succ_eq_append_getElem hkl)
        have HS1 := hid (List.take_succ_eq_append_getElem hkl')
        have HE0 := hid (List.getElem?_eq_getElem hkl)
        have HE1 := hid (List.getElem?_eq_getElem hkl')
        generalize l[k] = x at hc0 HS0 HE0
        generalize l'[k] = y at hc1 HS1 HE1
        clear h0 h1
        by_cases hxy : x = y
        · subst hxy
          go_wp2
          go_quiet (fail)
          go_wp2
          go_roundw
          case rel => exact ⟨k + 1, by omega, by go_num, by rw [HS0.out, HS1.out, HT.out], below_drewN hb _⟩
          case measure => simp [RowKit.intOf]; omega
        · have hne : ((x : Int) == (y : Int)) = false := by simp; omega
          go_wp2
          go_quiet (fail)
          go_wp2
          go_ret
          refine ⟨ret_bool ?_, below_drewN hb _⟩
          simp only [decide_eq_false_iff_not, Bool.false_eq, decide_eq_false_iff_not]
          intro he
          have h2 := HE0.out
          rw [he, HE1.out] at h2
          exact hxy (Option.some.inj h2).symm
      · obtain rfl : k = n := by omega
        have he : l = l' := same_of_take HL0.out.symm HL1.out.symm HT.out
        go_wp2
        go_ret
        exact ⟨ret_bool (by simp [he]), hb⟩
  · have hne : ((n : Int) != (m : Int)) = true := by rw [bne_iff_ne]; omega
    go_enter Tryz.func20, Tryz.ntmps20
    go_wp2
    go_ret
    exact ⟨ret_bool (by simp; intro h; exact hn (by rw [← HL0.out, ← HL1.out, h])), Below.refl _ _⟩

set_option maxHeartbeats 800000 in
/-- a copy of bytes by the library's own Clone -/
theorem clone_w (a : Option Addr) (n cap : Nat) (l : List Nat) (w : World) (hr : Nums .u8 w a n cap l) (hn : n ≤ 140737488355328) :
    Calls Tryz.prog 48 #[.slice a n cap] w fun e w' => ∃ v, e = .returned v ∧ w'.ownsRow w.heap.size 5 1 v n (nums .u8 l) ∧ Below w.heap.size w w' := by
  have ke := fun (w : World) (a : Option Addr) (n c : Nat) => Lib.run_eql_slice_nil (P := Tryz.prog) w 35 5 a n c 0 0 Tryz.underlying35
  cases a with
  | none =>
    have hc := hr.2.2.2.1 rfl
    have hn0 : n = 0 := by have := hr.2.1; omega
    subst hc; subst hn0
    have hl : l = [] := List.eq_nil_of_length_eq_zero hr.len
    subst hl
    go_enter Tryz.func48, Tryz.ntmps48
    go_wp2
    go_ret
    exact ⟨_, rfl, World.ownsRow_nil _ _ _ _, Below.refl _ _⟩
  | some ad =>
    go_enter Tryz.func48, Tryz.ntmps48
    go_wp2_with (at_builtin; go_must (refine wpList_app elU8 rfl _ _ rfl w.heap.size (.slice (some ⟨w.heap.size, 0, none⟩) 0 0) 0 [] rfl (World.ownsRow_made w #[] 0 (Nat.le_refl _) (by decide) rfl) (some ad) n cap (nums .u8 l) rfl (Row.below hr ((Below.refl _ _).alloc (Nat.le_refl _) _)) (nums_oneCell _ _) (by unfold maxLen; omega) (by omega) (by simp) ?_); intro v1 w1 own1 hb1 _)
    go_ret
    rw [Nat.zero_add, List.nil_append] at own1
    exact ⟨_, rfl, own1, ((Below.refl _ _).alloc (Nat.le_refl _) _).trans hb1⟩
end Go.Proofs.YtbjfgdahfpfgdaaGreatDoor.RefW

namespace Go.Proofs.YtbjfgdahfpfgdaaGreatDoor.MapsW
open Go Go.RowKit Go.Maps Go.Proofs.YtbjfgdahfpfgdaaGreatDoor.Mem
set_option linter.unusedVariables false
set_option maxRecDepth 100000

theorem law : Keyed Tryz.prog 3 := int_keyed Tryz.underlying3
theorem wfi {i : Int} (h : -9223372036854775808 ≤ i ∧ i ≤ 9223372036854775807) : (Lit.int .i64 i).wf = true := by
  simp [Lit.wf, IntKind.min, IntKind.max, IntKind.signed, IntKind.bits]; omega
theorem key {i : Int} (h : -9223372036854775808 ≤ i ∧ i ≤ 9223372036854775807) : keyOf Tryz.prog 3 (.int .i64 i) = some (.int .i64 i) := keyOf_int_mk Tryz.underlying3 (wfi h)
theorem islit (i : Int) : WideAt.IsKeyLit (.int .i64 i) := trivial
/-- an int that fits -/
abbrev Fits (i : Int) : Prop := -9223372036854775808 ≤ i ∧ i ≤ 9223372036854775807

/-- how an element that is a row reads: its block, its length, its room -/
def rowd (g n cap : Nat) : DataW Unit := .agg [.lit (.int .i64 g), .lit (.int .i64 n), .lit (.int .i64 cap)]
def rowR : Value → Option (DataW Unit × List MemPlace)
  | .slice none 0 0 => some (.nil, [])
  | .slice (some ⟨g, 0, none⟩) n cap => some (rowd g n cap, [])
  | _ => none
theorem rowR_nil {v : Value} {ps : List MemPlace} (h : rowR v = some (.nil, ps)) : v = .slice none 0 0 := by
  unfold rowR at h
  split at h
  · rfl
  · simp [rowd] at h
  · cases h
theorem rowR_row {v : Value} {g n cap : Nat} {ps : List MemPlace} (h : rowR v = some (rowd g n cap, ps)) : v = .slice (some ⟨g, 0, none⟩) n cap := by
  unfold rowR at h
  split at h
  · simp [rowd] at h
  · simp only [rowd, Option.some.injEq, Prod.mk.injEq, DataW.agg.injEq, List.cons.injEq, DataW.lit.injEq, Lit.int.injEq, true_and, and_true, Int.natCast_inj] at h
    obtain ⟨⟨rfl, rfl, rfl⟩, _⟩ := h
    rfl
  · cases h
theorem rowR_mk (g n cap : Nat) : rowR (.slice (some ⟨g, 0, none⟩) n cap) = some (rowd g n cap, []) := rfl

/-- block b of w is a map of rows of 256 bytes, one at each key at which F has one; np of them; the rows lie from base on -/
def RowMap (w : World) (base b n : Nat) (F : Int → Option (List Nat)) (np : Nat) : Prop :=
  ∃ D, w.ownsMap Tryz.prog 3 rowR b n D ∧ Maps.size D = np ∧
    ∀ i, match F i with
      | none => Maps.has D (.int .i64 i) = false
      | some l => Maps.has D (.int .i64 i) = true ∧ ∃ g cap, (∀ z, D.atKey (.int .i64 i) z = rowd g 256 cap) ∧ Nums .u8 w (some ⟨g, 0, none⟩) 256 cap l ∧ base ≤ g
/-- block b of w is a map of bools -/
def BoolMap (w : World) (b n : Nat) (F : Int → Bool) : Prop :=
  ∃ D : DataW Unit, w.ownsMap Tryz.prog 3 (plainElem Tryz.prog 4) b n D ∧ ∀ i, D.atKey (.int .i64 i) (.lit (.bool false)) = .lit (.bool (F i))

theorem zeroRow (w : World) : (zeroValue 35).run Tryz.prog w = .ok (.slice none 0 0) w := by kernel_rfl
theorem zeroBool (w : World) : (zeroValue 4).run Tryz.prog w = .ok (.bool false) w := by kernel_rfl

theorem RowMap.mono {w : World} {base base' b n n' : Nat} {F : Int → Option (List Nat)} {np : Nat} (h : RowMap w base b n F np) (hn : n ≤ n') (hb : base' ≤ base) : RowMap w base' b n' F np := by
  obtain ⟨D, h1, h2, h3⟩ := h
  refine ⟨D, h1.mono hn, h2, fun i => ?_⟩
  have := h3 i
  cases hF : F i with
  | none => rw [hF] at this; exact this
  | some l =>
    rw [hF] at this
    obtain ⟨a, g, cap, b1, b2, b3⟩ := this
    exact ⟨a, g, cap, b1, b2, by omega⟩
theorem BoolMap.mono {w : World} {b n n' : Nat} {F : Int → Bool} (h : BoolMap w b n F) (hn : n ≤ n') : BoolMap w b n' F := by
  obtain ⟨D, h1, h2⟩ := h
  exact ⟨D, h1.mono hn, h2⟩
/-- a map's block -/
theorem RowMap.block {w : World} {base b n : Nat} {F : Int → Option (List Nat)} {np : Nat} (h : RowMap w base b n F np) : ∃ es ck, w.heap[b]? = some (.map es ck) := by
  obtain ⟨D, ⟨es, ck, h1, _⟩, _⟩ := h
  exact ⟨es, ck, h1⟩
theorem BoolMap.block {w : World} {b n : Nat} {F : Int → Bool} (h : BoolMap w b n F) : ∃ es ck, w.heap[b]? = some (.map es ck) := by
  obtain ⟨D, ⟨es, ck, h1, _⟩, _⟩ := h
  exact ⟨es, ck, h1⟩

/-- what is written elsewhere: the map's block, and each block of cells but d, are as they were -/
structure Still (d : Nat) (w w' : World) (b : Nat) : Prop where
  map : w'.heap[b]? = w.heap[b]?
  cells : ∀ k c t f, k ≠ d → w.heap[k]? = some (.cells c t f) → w'.heap[k]? = w.heap[k]?
theorem ownsMap_of {H : Type} {w w' : World} {P : Program} {k : TypeId} {R : Value → Option (DataW H × List MemPlace)} {b n : Nat} {D : DataW H} (h : w.ownsMap P k R b n D) (e : w'.heap[b]? = w.heap[b]?) : w'.ownsMap P k R b n D := by
  obtain ⟨es, ck, h1, h2⟩ := h
  exact ⟨es, ck, e.trans h1, h2⟩
theorem cell_cells {w : World} {b o : Nat} {v : Value} (h : w.cell? ⟨b, o, none⟩ = some v) : ∃ c t f, w.heap[b]? = some (.cells c t f) := by
  unfold World.cell? at h
  cases hb : w.heap[b]? with
  | none => simp [hb] at h
  | some o => cases o <;> simp [hb] at h ⊢
theorem nums_of_cells {k : IntKind} {w w' : World} {g n cap : Nat} {l : List Nat} (h : Nums k w (some ⟨g, 0, none⟩) n cap l) (e : w'.heap[g]? = w.heap[g]?) : Nums k w' (some ⟨g, 0, none⟩) n cap l := by
  obtain ⟨h1, h2, h3, h4, h5⟩ := h
  refine ⟨h1, h2, h3, h4, fun j u hj => ?_⟩
  obtain ⟨b, o, he, hc⟩ := h5 j u hj
  refine ⟨b, o, he, ?_⟩
  cases he
  rw [World.cell?_of_block (w := w) e]
  exact hc
theorem nums_cells {k : IntKind} {w : World} {g n cap : Nat} {l : List Nat} (h : Nums k w (some ⟨g, 0, none⟩) n cap l) (hn : 0 < n) : ∃ c t f, w.heap[g]? = some (.cells c t f) := by
  obtain ⟨b, o, he, hc⟩ := h.at (j := 0) (by rw [h.len]; exact hn)
  cases he
  exact cell_cells hc
theorem RowMap.still {w w' : World} {d base b n : Nat} {F : Int → Option (List Nat)} {np : Nat} (h : RowMap w base b n F np) (hd : d < base) (hs : Still d w w' b) : RowMap w' base b n F np := by
  obtain ⟨D, h1, h2, h3⟩ := h
  refine ⟨D, ownsMap_of h1 hs.map, h2, fun i => ?_⟩
  have := h3 i
  cases hF : F i with
  | none => rw [hF] at this; exact this
  | some l =>
    rw [hF] at this
    obtain ⟨a, g, cap, b1, b2, b3⟩ := this
    obtain ⟨c, t, f, hc⟩ := nums_cells b2 (by decide)
    exact ⟨a, g, cap, b1, nums_of_cells b2 (hs.cells g c t f (by omega) hc), b3⟩
theorem BoolMap.still {w w' : World} {b n : Nat} {F : Int → Bool} (h : BoolMap w b n F) (e : w'.heap[b]? = w.heap[b]?) : BoolMap w' b n F := by
  obtain ⟨D, h1, h2⟩ := h
  exact ⟨D, ownsMap_of h1 e, h2⟩

/-- a new map -/
theorem RowMap.made (w : World) (base : Nat) : RowMap (w.alloc (.map #[] 0)) base w.heap.size 0 (fun _ => none) 0 :=
  ⟨.map [], World.ownsMap_made _ _ _ _, rfl, fun i => rfl⟩
theorem BoolMap.made (w : World) : BoolMap (w.alloc (.map #[] 0)) w.heap.size 0 (fun _ => false) :=
  ⟨.map [], World.ownsMap_made _ _ _ _, fun i => rfl⟩

/-- what is looked up -/
theorem RowMap.look_none {w : World} {base b n : Nat} {F : Int → Option (List Nat)} {np : Nat} (h : RowMap w base b n F np) {i : Int} (hi : Fits i) (hF : F i = none) :
    (Instr.lookup 91 (.map (some b)) (.int .i64 i) false).run Tryz.prog w = .ok (.slice none 0 0) w := by
  obtain ⟨D, h1, _, h3⟩ := h
  have := h3 i
  rw [hF] at this
  obtain ⟨v, ps, hr, hv⟩ := h1.lookup law Tryz.underlying91 (zeroRow w) (zd := .nil) (zp := []) rfl (key hi)
  rw [atKey_of_not_has this] at hv
  rw [rowR_nil hv] at hr
  exact hr
theorem RowMap.look_some {w : World} {base b n : Nat} {F : Int → Option (List Nat)} {np : Nat} (h : RowMap w base b n F np) {i : Int} (hi : Fits i) {l : List Nat} (hF : F i = some l) :
    ∃ g cap, (Instr.lookup 91 (.map (some b)) (.int .i64 i) false).run Tryz.prog w = .ok (.slice (some ⟨g, 0, none⟩) 256 cap) w ∧ Nums .u8 w (some ⟨g, 0, none⟩) 256 cap l ∧ base ≤ g := by
  obtain ⟨D, h1, _, h3⟩ := h
  have := h3 i
  rw [hF] at this
  obtain ⟨_, g, cap, b1, b2, b3⟩ := this
  obtain ⟨v, ps, hr, hv⟩ := h1.lookup law Tryz.underlying91 (zeroRow w) (zd := .nil) (zp := []) rfl (key hi)
  rw [b1] at hv
  rw [rowR_row hv] at hr
  exact ⟨g, cap, hr, b2, b3⟩
theorem BoolMap.look {w : World} {b n : Nat} {F : Int → Bool} (h : BoolMap w b n F) {i : Int} (hi : Fits i) :
    (Instr.lookup 115 (.map (some b)) (.int .i64 i) false).run Tryz.prog w = .ok (.bool (F i)) w := by
  obtain ⟨D, h1, h2⟩ := h
  obtain ⟨v, ps, hr, hv⟩ := h1.lookup law Tryz.underlying115 (zeroBool w) (zd := .lit (.bool false)) (zp := []) (plainElem_bool Tryz.underlying4 false) (key hi)
  rw [h2 i] at hv
  have : v = .bool (F i) := by
    unfold plainElem at hv
    rw [Tryz.underlying4] at hv
    cases v <;> simp at hv
    rw [hv.1]
  rw [this] at hr
  exact hr

/-- one more, or another, at a key -/
def upd {α : Type} (F : Int → α) (i : Int) (x : α) : Int → α := fun j => if j = i then x else F j
theorem upd_same {α : Type} (F : Int → α) (i : Int) (x : α) : upd F i x i = x := if_pos rfl
theorem upd_other {α : Type} (F : Int → α) {i j : Int} (x : α) (h : j ≠ i) : upd F i x j = F j := if_neg h
theorem litne {i j : Int} (h : j ≠ i) : (Lit.int .i64 j) ≠ Lit.int .i64 i := fun e => h (Lit.int.inj e).2

theorem RowMap.put {w w' : World} {base b n : Nat} {F : Int → Option (List Nat)} {np : Nat} {D : DataW Unit} {i : Int} {g cap : Nat} {l : List Nat}
    (h2 : Maps.size D = np) (h3 : ∀ i, match F i with
      | none => Maps.has D (.int .i64 i) = false
      | some l => Maps.has D (.int .i64 i) = true ∧ ∃ g cap, (∀ z, D.atKey (.int .i64 i) z = rowd g 256 cap) ∧ Nums .u8 w (some ⟨g, 0, none⟩) 256 cap l ∧ base ≤ g)
    (hT : Tidy D) (hown : w'.ownsMap Tryz.prog 3 rowR b (n + 1) (D.put (.int .i64 i) (rowd g 256 cap))) (hg : w.grownBy w' (some b)) (hb : ∃ es ck, w.heap[b]? = some (.map es ck))
    (hl : Nums .u8 w (some ⟨g, 0, none⟩) 256 cap l) (hbg : base ≤ g) : RowMap w' base b (n + 1) (upd F i (some l)) (if (F i).isSome then np else np + 1) := by
  have hk : ∀ g' cap' (l' : List Nat), Nums .u8 w (some ⟨g', 0, none⟩) 256 cap' l' → Nums .u8 w' (some ⟨g', 0, none⟩) 256 cap' l' := by
    intro g' cap' l' hn
    obtain ⟨c, t, f, hc⟩ := nums_cells hn (by decide)
    refine nums_of_cells hn (hg.block g' (Array.getElem?_eq_some_iff.1 hc).1 fun e => ?_)
    obtain ⟨es, ck, hm⟩ := hb
    rw [Option.some.inj e] at hc
    rw [hm] at hc
    cases hc
  refine ⟨_, hown, ?_, fun j => ?_⟩
  · rw [size_put hT, h2]
    have := h3 i
    cases hF : F i with
    | none => rw [hF] at this; rw [this]; rfl
    | some l' => rw [hF] at this; rw [this.1]; rfl
  · by_cases hj : j = i
    · subst hj
      rw [upd_same]
      exact ⟨has_put_same hT.isMap (islit j) _, g, cap, fun z => atKey_put_same hT.isMap (islit j) _ z, hk _ _ _ hl, hbg⟩
    · rw [upd_other _ _ hj]
      have := h3 j
      cases hF : F j with
      | none => rw [hF] at this; exact (has_put_other (litne hj) _).trans this
      | some l' =>
        rw [hF] at this
        obtain ⟨a, g', cap', b1, b2, b3⟩ := this
        exact ⟨(has_put_other (litne hj) _).trans a, g', cap', fun z => (atKey_put_other (litne hj) _ z).trans (b1 z), hk _ _ _ b2, b3⟩

/-- 'm[i] = b' -/
theorem wpList_putRow (w : World) {ops : Array Oper} {rest : List Oper} {o : Oper} {a : Act} {Q : Exit → Act → World → Prop} (hg : o.guard = none) (m x v : Operand) (hop : o.op = Op.mapUpdate 91 m x v)
    {base b n : Nat} {F : Int → Option (List Nat)} {np : Nat} (h : RowMap w base b n F np) (hn : n < 1000000) {i : Int} (hi : Fits i) {g cap : Nat} {l : List Nat} (hl : Nums .u8 w (some ⟨g, 0, none⟩) 256 cap l) (hbg : base ≤ g)
    (hm : a.eval m = .map (some b)) (hx : a.eval x = .int .i64 i) (hv : a.eval v = .slice (some ⟨g, 0, none⟩) 256 cap)
    (hK : ∀ w', RowMap w' base b (n + 1) (upd F i (some l)) (if (F i).isSome then np else np + 1) → w.grownBy w' (some b) → wpList Tryz.prog ops Q rest (a.put o.dst undef) w') : wpList Tryz.prog ops Q (o :: rest) a w := by
  have hb := h.block
  obtain ⟨D, h1, h2, h3⟩ := h
  refine wpList_mapUpdate_own w hg m x v _ hop 3 35 law Tryz.underlying91 rowR b n D hm h1 (by unfold maxLen; omega) _ _ _ hx hv (key hi) _ [] (rowR_mk g 256 cap) fun w' ho hgw => ?_
  exact hK w' (RowMap.put h2 h3 (h1.tidy law) ho hgw hb hl hbg) hgw
/-- the same as an equation on the operation's run -/
theorem RowMap.store {w : World} {base b n : Nat} {F : Int → Option (List Nat)} {np : Nat} (h : RowMap w base b n F np) (hn : n < 1000000) {i : Int} (hi : Fits i) {g cap : Nat} {l : List Nat} (hl : Nums .u8 w (some ⟨g, 0, none⟩) 256 cap l) (hbg : base ≤ g) :
    ∃ w', (Instr.mapUpdate 91 (.map (some b)) (.int .i64 i) (.slice (some ⟨g, 0, none⟩) 256 cap)).run Tryz.prog w = .ok () w' ∧ RowMap w' base b (n + 1) (upd F i (some l)) (if (F i).isSome then np else np + 1) ∧ w.grownBy w' (some b) := by
  have hb := h.block
  obtain ⟨D, h1, h2, h3⟩ := h
  obtain ⟨w', hr, ho, hgw⟩ := h1.update law Tryz.underlying91 (by unfold maxLen; omega) (key hi) (rowR_mk g 256 cap)
  exact ⟨w', hr, RowMap.put h2 h3 (h1.tidy law) ho hgw hb hl hbg, hgw⟩
theorem wpList_putBool (w : World) {ops : Array Oper} {rest : List Oper} {o : Oper} {a : Act} {Q : Exit → Act → World → Prop} (hg : o.guard = none) (m x v : Operand) (hop : o.op = Op.mapUpdate 115 m x v)
    {b n : Nat} {F : Int → Bool} (h : BoolMap w b n F) (hn : n < 1000000) {i : Int} (hi : Fits i) (y : Bool)
    (hm : a.eval m = .map (some b)) (hx : a.eval x = .int .i64 i) (hv : a.eval v = .bool y)
    (hK : ∀ w', BoolMap w' b (n + 1) (upd F i y) → w.grownBy w' (some b) → wpList Tryz.prog ops Q rest (a.put o.dst undef) w') : wpList Tryz.prog ops Q (o :: rest) a w := by
  obtain ⟨D, h1, h2⟩ := h
  refine wpList_mapUpdate_own w hg m x v _ hop 3 4 law Tryz.underlying115 _ b n D hm h1 (by unfold maxLen; omega) _ _ _ hx hv (key hi) _ [] (plainElem_bool Tryz.underlying4 y) fun w' ho hgw => ?_
  refine hK w' ⟨_, ho, fun j => ?_⟩ hgw
  by_cases hj : j = i
  · subst hj
    rw [upd_same, atKey_put_same (h1.tidy law).isMap (islit j)]
  · rw [upd_other _ _ hj, atKey_put_other (litne hj), h2]
theorem wpList_delBool (w : World) {ops : Array Oper} {rest : List Oper} {o : Oper} {a : Act} {Q : Exit → Act → World → Prop} (hg : o.guard = none) (m x : Operand) (hop : o.op = Op.call { callee := Callee.builtin Builtin.delete, args := #[m, x], argTypes := #[115, 3] })
    {b n : Nat} {F : Int → Bool} (h : BoolMap w b n F) {i : Int} (hi : Fits i)
    (hm : a.eval m = .map (some b)) (hx : a.eval x = .int .i64 i)
    (hK : ∀ w', BoolMap w' b n (upd F i false) → w.grownBy w' (some b) → wpList Tryz.prog ops Q rest (a.put o.dst (.tuple #[])) w') : wpList Tryz.prog ops Q (o :: rest) a w := by
  obtain ⟨D, h1, h2⟩ := h
  refine wpList_delete_own w hg m x _ _ hop 4 law Tryz.underlying115 _ b n D hm h1 _ _ hx (key hi) fun w' ho hgw => ?_
  refine hK w' ⟨_, ho, fun j => ?_⟩ hgw.grown
  by_cases hj : j = i
  · subst hj
    rw [upd_same, atKey_del_same]
  · rw [upd_other _ _ hj, atKey_del_other (litne hj), h2]
end Go.Proofs.YtbjfgdahfpfgdaaGreatDoor.MapsW

namespace Go.Proofs.YtbjfgdahfpfgdaaGreatDoor.MapsW
open Go Go.RowKit Go.Maps Go.Proofs.YtbjfgdahfpfgdaaGreatDoor.Mem
set_option linter.unusedVariables false
set_option maxRecDepth 100000

/-- block b of w is a map of bools: true at each of its keys, k of them -/
def SetMap (w : World) (b n : Nat) (F : Int → Bool) (k : Nat) : Prop :=
  ∃ D : DataW Unit, w.ownsMap Tryz.prog 3 (plainElem Tryz.prog 4) b n D ∧ Maps.size D = k ∧ ∀ i, D.atKey (.int .i64 i) (.lit (.bool false)) = .lit (.bool (F i)) ∧ Maps.has D (.int .i64 i) = F i
theorem SetMap.bool {w : World} {b n k : Nat} {F : Int → Bool} (h : SetMap w b n F k) : BoolMap w b n F := by
  obtain ⟨D, h1, _, h2⟩ := h
  exact ⟨D, h1, fun i => (h2 i).1⟩
theorem SetMap.mono {w : World} {b n n' k : Nat} {F : Int → Bool} (h : SetMap w b n F k) (hn : n ≤ n') : SetMap w b n' F k := by
  obtain ⟨D, h1, h2⟩ := h
  exact ⟨D, h1.mono hn, h2⟩
theorem SetMap.block {w : World} {b n k : Nat} {F : Int → Bool} (h : SetMap w b n F k) : ∃ es ck, w.heap[b]? = some (.map es ck) := h.bool.block
theorem SetMap.still {w w' : World} {b n k : Nat} {F : Int → Bool} (h : SetMap w b n F k) (e : w'.heap[b]? = w.heap[b]?) : SetMap w' b n F k := by
  obtain ⟨D, h1, h2⟩ := h
  exact ⟨D, ownsMap_of h1 e, h2⟩
theorem SetMap.made (w : World) : SetMap (w.alloc (.map #[] 0)) w.heap.size 0 (fun _ => false) 0 :=
  ⟨.map [], World.ownsMap_made _ _ _ _, rfl, fun i => ⟨rfl, rfl⟩⟩
theorem wpList_putSet (w : World) {ops : Array Oper} {rest : List Oper} {o : Oper} {a : Act} {Q : Exit → Act → World → Prop} (hg : o.guard = none) (m x v : Operand) (hop : o.op = Op.mapUpdate 115 m x v)
    {b n k : Nat} {F : Int → Bool} (h : SetMap w b n F k) (hn : n < 1000000) {i : Int} (hi : Fits i)
    (hm : a.eval m = .map (some b)) (hx : a.eval x = .int .i64 i) (hv : a.eval v = .bool true)
    (hK : ∀ w', SetMap w' b (n + 1) (upd F i true) (if F i then k else k + 1) → w.grownBy w' (some b) → wpList Tryz.prog ops Q rest (a.put o.dst undef) w') : wpList Tryz.prog ops Q (o :: rest) a w := by
  obtain ⟨D, h1, h3, h2⟩ := h
  refine wpList_mapUpdate_own w hg m x v _ hop 3 4 law Tryz.underlying115 _ b n D hm h1 (by unfold maxLen; omega) _ _ _ hx hv (key hi) _ [] (plainElem_bool Tryz.underlying4 true) fun w' ho hgw => ?_
  refine hK w' ⟨_, ho, ?_, fun j => ?_⟩ hgw
  · rw [size_put (h1.tidy law), (h2 i).2, h3]
  · by_cases hj : j = i
    · subst hj
      rw [upd_same, atKey_put_same (h1.tidy law).isMap (islit j)]
      exact ⟨rfl, has_put_same (h1.tidy law).isMap (islit j) _⟩
    · rw [upd_other _ _ hj, atKey_put_other (litne hj), (h2 j).1]
      exact ⟨rfl, (has_put_other (litne hj) _).trans (h2 j).2⟩
theorem SetMap.len {w : World} {b n k : Nat} {F : Int → Bool} (h : SetMap w b n F k) : ∃ D : DataW Unit, w.ownsMap Tryz.prog 3 (plainElem Tryz.prog 4) b n D ∧ Maps.size D = k := by
  obtain ⟨D, h1, h2, _⟩ := h
  exact ⟨D, h1, h2⟩
end Go.Proofs.YtbjfgdahfpfgdaaGreatDoor.MapsW

namespace Go.Proofs.YtbjfgdahfpfgdaaGreatDoor.Err
open Go Go.RowKit Go.ChangeShapes
set_option maxRecDepth 100000

/-- an error that was made of a text, as a listed datum -/
def datum (t : List UInt8) : DataW Unit := .iface "*errors.errorString" (.ptr (.agg [.lit (.string t)]))
abbrev tp : TypeId := 247
/-- the variable at g holds the error at a -/
def At (w : World) (g : Nat) (a : Addr) : Prop := w.cell? ⟨g, 0, none⟩ = some (.iface tp (.pointer (some a))) ∧ ∃ c t, w.heap[a.block]? = some (.cells c t (0, 0))
theorem At.lt {w : World} {g : Nat} {a : Addr} (h : At w g a) : a.block < w.heap.size := by
  obtain ⟨_, c, t, h2⟩ := h
  rcases Nat.lt_or_ge a.block w.heap.size with h | h
  · exact h
  · rw [Array.getElem?_eq_none h] at h2; cases h2
theorem At.below {w w' : World} {g : Nat} {a : Addr} (h : At w g a) (hb : Below w.heap.size w w') : At w' g a := by
  have hl := h.lt
  obtain ⟨h1, c, t, h2⟩ := h
  refine ⟨?_, c, t, ?_⟩
  · have := World.block_lt_of_cell? w ⟨g, 0, none⟩ h1
    rw [hb.cell (p := ⟨g, 0, none⟩) this]
    exact h1
  · rw [hb.block _ hl]; exact h2

theorem star : "*" ++ "errors.errorString" = "*errors.errorString" := by decide
theorem hrow (u : TypeId) (h : Tryz.prog.typeName? 3 u = some "*errors.errorString") : u = tp :=
  typeName_ptr_named (P := Tryz.prog) (nm := "errors.errorString") (by rw [star]; kernel_rfl) (by kernel_rfl) (by decide) u (by rw [star]; exact h)

theorem of_vars {W : World} : ∀ (l : List (String × List UInt8)) (ps : List MemPlace), DataW.LaidVars Tryz.prog W (l.map fun x => (x.1, datum x.2)) ps →
    (∀ b off, MemPlace.cell b off ∈ ps → (∃ c t, W.heap[b]? = some (.cells c t (0, 0))) ∧ ∀ u v, W.cell? ⟨b, off, none⟩ = some (.iface u v) → Value.okWide Tryz.prog W .any 0 u v) →
    (∀ x ∈ l, ∃ g, Tryz.prog.globalNamed x.1 = some g ∧ (Tryz.prog.globals[g]?).map (·.type) = some 33) →
    ∃ bs : List Addr, bs.length = l.length ∧ (bs.map fun a => MemPlace.cell a.block a.off).Sublist ps ∧
      ∀ (i : Nat) (x : String × List UInt8) (g : Nat), l[i]? = some x → Tryz.prog.globalNamed x.1 = some g → ∃ a, bs[i]? = some a ∧ At W g a := by
  intro l
  induction l with
  | nil => intro ps _ _ _; exact ⟨[], rfl, List.nil_sublist _, fun i x g h => by simp at h⟩
  | cons x r ih =>
    intro ps hv hok hg
    obtain ⟨g0, t0, cs0, f0, p0, q0, hg0, ht0, hv0, hd0, hq, rfl⟩ := hv
    obtain ⟨g, hgn, hgt⟩ := hg x (by simp)
    obtain rfl := Option.some.inj (hgn.symm.trans hg0)
    obtain rfl := Option.some.inj (hgt.symm.trans ht0)
    obtain ⟨l0⟩ := cs0
    have ok0 : ∀ u v, l0 = [.iface u v] → Value.okWide Tryz.prog W .any 0 u v := fun u v e => by
      subst e
      exact (hok g 0 (by simp [MemPlace.row])).2 u v (by simpa using World.var?_cell hgn hv0 0)
    obtain ⟨a0, s0, hl0, _, _, _, rfl⟩ := errorString_of_trod Tryz.underlying33 hrow Tryz.underlying247 Tryz.underlying263 rfl rfl Tryz.underlying9 (by kernel_rfl) (by kernel_rfl) hd0 ok0
    subst hl0
    obtain ⟨bs, hlen, hsub, hat⟩ := ih q0 hq (fun b off hm => hok b off (List.mem_append_right _ hm)) (fun y hy => hg y (by simp [hy]))
    refine ⟨a0 :: bs, by simp [hlen], ?_, ?_⟩
    · have h1 : MemPlace.row a0 1 = [MemPlace.cell a0.block a0.off] := by simp [MemPlace.row]
      rw [h1, List.append_assoc]
      exact List.Sublist.trans (by simpa using hsub) (List.sublist_append_right _ _)
    · intro i y g' hi hg'
      cases i with
      | zero =>
        simp at hi
        subst hi
        obtain rfl := Option.some.inj (hgn.symm.trans hg')
        exact ⟨a0, rfl, by simpa using World.var?_cell hgn hv0 0, (hok a0.block a0.off (by simp [MemPlace.row])).1⟩
      | succ i => exact hat i y g' (by simpa using hi) hg'

/-- each of the variables gl holds an error of its own -/
def All (w : World) (gl : List Nat) : Prop := ∃ bs : List Addr, bs.length = gl.length ∧ bs.Nodup ∧ ∀ (i g : Nat), gl[i]? = some g → ∃ a, bs[i]? = some a ∧ At w g a
/-- of a list's variables some alone -/
theorem sub_vars {P : Program} {W : World} : ∀ {l l' : List (String × DataW Unit)}, l'.Sublist l → ∀ (ps : List MemPlace), DataW.LaidVars P W l ps → ∃ ps', DataW.LaidVars P W l' ps' ∧ ps'.Sublist ps := by
  intro l l' h
  induction h with
  | slnil => intro ps hv; exact ⟨ps, hv, List.Sublist.refl _⟩
  | cons a _ ih =>
    intro ps hv
    obtain ⟨g0, t0, cs0, f0, p0, q0, hg0, ht0, hv0, hd0, hq, rfl⟩ := hv
    obtain ⟨ps', h1, h2⟩ := ih q0 hq
    exact ⟨ps', h1, h2.trans (List.sublist_append_right _ _)⟩
  | cons_cons a _ ih =>
    intro ps hv
    obtain ⟨g0, t0, cs0, f0, p0, q0, hg0, ht0, hv0, hd0, hq, rfl⟩ := hv
    obtain ⟨ps', h1, h2⟩ := ih q0 hq
    exact ⟨_, ⟨g0, t0, cs0, f0, p0, ps', hg0, ht0, hv0, hd0, h1, rfl⟩, List.Sublist.append (List.Sublist.refl _) h2⟩
/-- the listed errors, where other variables are listed beside them -/
theorem all_of_sub {W : World} (l : List (String × List UInt8)) (gl : List Nat) (laid : List (String × DataW Unit)) (hl : (l.map fun x => (x.1, datum x.2)).Sublist laid) (hp : (laid.all fun x => x.2.handleName?.isNone) = true) (h : laidMetH Tryz.prog laid W)
    (hg : ∀ x ∈ l, ∃ g, Tryz.prog.globalNamed x.1 = some g ∧ (Tryz.prog.globals[g]?).map (·.type) = some 33)
    (hgl : (l.map fun x => Tryz.prog.globalNamed x.1) = gl.map some) : All W gl := by
  rw [MakeChecks.laidMetH_plain _ _ _ hp] at h
  obtain ⟨ps, hv, hnd, hrows⟩ := h
  obtain ⟨ps', hv', hsub⟩ := sub_vars hl ps hv
  obtain ⟨bs, h1, h2, h3⟩ := of_vars l ps' hv' (fun b off hm => hrows b off (hsub.subset hm)) hg
  have hn := (hnd.sublist hsub).sublist h2
  have hlen := congrArg List.length hgl
  simp only [List.length_map] at hlen
  refine ⟨bs, by omega, (List.pairwise_map.1 hn).imp fun h e => h (by rw [e]), fun i g hi => ?_⟩
  have hlt : i < gl.length := (List.getElem?_eq_some_iff.1 hi).1
  have hlt2 : i < l.length := by omega
  have e := congrArg (fun z => z[i]?) hgl
  simp only [List.getElem?_map, hi, Option.map_some] at e
  rw [List.getElem?_eq_getElem hlt2] at e
  simp only [Option.map_some, Option.some.injEq] at e
  exact h3 i _ g (List.getElem?_eq_getElem hlt2) e
theorem All.at {w : World} {gl : List Nat} (h : All w gl) (i g : Nat) (hi : gl[i]? = some g) : ∃ a, At w g a := by
  obtain ⟨bs, _, _, h3⟩ := h
  obtain ⟨a, _, ha⟩ := h3 i g hi
  exact ⟨a, ha⟩
theorem All.below {w w' : World} {gl : List Nat} (h : All w gl) (hb : Below w.heap.size w w') : All w' gl := by
  obtain ⟨bs, h1, h2, h3⟩ := h
  exact ⟨bs, h1, h2, fun i g hi => let ⟨a, ha, hA⟩ := h3 i g hi; ⟨a, ha, hA.below hb⟩⟩
end Go.Proofs.YtbjfgdahfpfgdaaGreatDoor.Err
