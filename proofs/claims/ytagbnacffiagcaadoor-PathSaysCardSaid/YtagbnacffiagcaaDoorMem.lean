/- Memory, as the walks of this seat speak of it: a slice that reads as a list; what stays when blocks are made. -/
import Derived.WalkKit
import Derived.WalkSmall
import Derived.Laws.AppendOwnNone
import Derived.Laws.CopyOwn
namespace Go.Proofs.YtagbnacffiagcaaDoor.Mem
open Go Go.RowKit

/-- a slice's n elements, 'size' cells each, are the cells xs -/
def Row (w : World) (size : Nat) (a : Option Addr) (n cap : Nat) (xs : List Value) : Prop :=
  xs.length = n * size ∧ n ≤ cap ∧ cap ≤ maxLen ∧ (a = none → cap = 0) ∧
    ∀ j u, xs[j]? = some u → ∃ b off, a = some ⟨b, off, none⟩ ∧ w.cell? ⟨b, off + j, none⟩ = some u

/-- a fact kept from the walk -/
theorem hid {p : Prop} (h : p) : Hid p := h
theorem ret_bool {a b : Bool} (h : a = b) : Ending.returned (.bool a) = .returned (.bool b) := by rw [h]
theorem ret_int {k : IntKind} {a b : Int} (h : a = b) : Ending.returned (.int k a) = .returned (.int k b) := by rw [h]
theorem beq_cast {a b c d : Nat} (h : a = b ↔ c = d) : (((a : Int) == (b : Int)) == ((c : Int) == (d : Int))) = true := by
  by_cases e : a = b
  · have e' := h.1 e; subst e; subst e'; simp
  · have e' : ¬ c = d := fun x => e (h.2 x)
    have h1 : ((a : Int) == (b : Int)) = false := by simp; omega
    have h2 : ((c : Int) == (d : Int)) = false := by simp; omega
    rw [h1, h2]; rfl

/-- numbers of a kind as cells -/
def nums (k : IntKind) (l : List Nat) : List Value := l.map fun (x : Nat) => .int k (x : Int)

/-- a slice of numbers -/
def Nums (k : IntKind) (w : World) (a : Option Addr) (n cap : Nat) (l : List Nat) : Prop := Row w 1 a n cap (nums k l)

theorem nums_length (k : IntKind) (l : List Nat) : (nums k l).length = l.length := by simp [nums]
theorem nums_take_succ (k : IntKind) (l : List Nat) (j : Nat) (h : j < l.length) : nums k (l.take (j + 1)) = nums k (l.take j) ++ [.int k ((l[j] : Nat) : Int)] := by
  rw [List.take_succ_eq_append_getElem h]
  unfold nums
  rw [List.map_append]
  rfl
theorem nums_get {k : IntKind} {l : List Nat} {j : Nat} (h : j < l.length) : (nums k l)[j]? = some (.int k ((l[j] : Nat) : Int)) := by simp [nums, h]

theorem Row.keep {w w' : World} {size : Nat} {a : Option Addr} {n cap : Nat} {xs : List Value} (h : Row w size a n cap xs)
    (hk : ∀ b o, a = some ⟨b, o, none⟩ → b < w.heap.size → w'.heap[b]? = w.heap[b]?) : Row w' size a n cap xs := by
  obtain ⟨h1, h2, h3, h4, h5⟩ := h
  refine ⟨h1, h2, h3, h4, fun j u hj => ?_⟩
  obtain ⟨b, off, ha, hc⟩ := h5 j u hj
  refine ⟨b, off, ha, ?_⟩
  have hlt := World.block_lt_of_cell? w ⟨b, off + j, none⟩ hc
  rw [World.cell?_of_block (w := w) (hk b off ha hlt)]
  exact hc
theorem Row.below {w w' : World} {size : Nat} {a : Option Addr} {n cap : Nat} {xs : List Value} (h : Row w size a n cap xs)
    (hb : Below w.heap.size w w') : Row w' size a n cap xs := h.keep fun b _ _ hlt => hb.block b hlt
theorem Nums.below {k : IntKind} {w w' : World} {a : Option Addr} {n cap : Nat} {l : List Nat} (h : Nums k w a n cap l)
    (hb : Below w.heap.size w w') : Nums k w' a n cap l := Row.below h hb
theorem Nums.len {k : IntKind} {w : World} {a : Option Addr} {n cap : Nat} {l : List Nat} (h : Nums k w a n cap l) : l.length = n := by
  have := h.1; rw [nums_length] at this; omega
theorem Nums.bound {k : IntKind} {w : World} {a : Option Addr} {n cap : Nat} {l : List Nat} (h : Nums k w a n cap l) : n ≤ cap ∧ cap ≤ 9223372036854775807 := by
  have := h.2.2.1; unfold maxLen at this; exact ⟨h.2.1, by omega⟩
/-- an element is a cell -/
theorem Nums.at {k : IntKind} {w : World} {a : Option Addr} {n cap : Nat} {l : List Nat} (h : Nums k w a n cap l) {j : Nat} (hj : j < l.length) :
    ∃ b off, a = some ⟨b, off, none⟩ ∧ w.cell? ⟨b, off + j, none⟩ = some (.int k ((l[j] : Nat) : Int)) := h.2.2.2.2 j _ (nums_get hj)
theorem Nums.take {k : IntKind} {w : World} {a : Option Addr} {n cap : Nat} {l : List Nat} (h : Nums k w a n cap l) {m : Nat} (hm : m ≤ n) : Nums k w a m cap (l.take m) := by
  have hl := h.len
  obtain ⟨h1, h2, h3, h4, h5⟩ := h
  refine ⟨by rw [nums_length, List.length_take]; omega, by omega, h3, h4, fun j u hj => ?_⟩
  refine h5 j u ?_
  have : nums k (l.take m) = (nums k l).take m := by simp [nums, List.map_take]
  rw [this, List.getElem?_take] at hj
  split at hj
  · exact hj
  · simp at hj
theorem Nums.nil (k : IntKind) (w : World) : Nums k w none 0 0 [] := ⟨rfl, Nat.le_refl _, Nat.zero_le _, fun _ => rfl, fun j u h => by simp [nums] at h⟩

theorem Row.owned {w : World} {base : Nat} {e : TypeId} {size : Nat} {a : Option Addr} {n cap m : Nat} {xs : List Value}
    (h : w.ownsRow base e size (.slice a n cap) m xs) : n = m ∧ Row w size a n cap xs := by
  have hc := fun g hg => World.ownsRow.cells h (g := g) hg
  obtain ⟨h1, h2⟩ := h
  rcases h2 with ⟨hv, h0⟩ | ⟨g, c, cur, hv, _, hg, h3, h4, h5, h6⟩
  · cases hv
    subst h0
    have : xs = [] := by simpa using h1
    subst this
    exact ⟨rfl, by simp, Nat.le_refl _, Nat.zero_le _, fun _ => rfl, fun j u h => by simp at h⟩
  · cases hv
    refine ⟨rfl, h1, h3, h4, fun h => by simp at h, fun j u hj => ⟨g, 0, rfl, ?_⟩⟩
    have := hc g rfl j u hj
    have ea : (⟨g, 0, none⟩ : Addr).add j = ⟨g, 0 + j, none⟩ := by unfold Addr.add; split <;> simp_all
    rw [ea] at this
    exact this

theorem Row.cell {w : World} {size : Nat} {b off n cap : Nat} {xs : List Value} (h : Row w size (some ⟨b, off, none⟩) n cap xs) {j : Nat} {u : Value} (hj : xs[j]? = some u) :
    w.cell? ⟨b, off + j, none⟩ = some u := by
  obtain ⟨b', off', he, hc⟩ := h.2.2.2.2 j u hj
  cases he
  exact hc
theorem Row.one {w : World} {g : Nat} {u : Value} (h : w.cell? ⟨g, 0, none⟩ = some u) : Row w 1 (some ⟨g, 0, none⟩) 1 1 [u] := by
  refine ⟨rfl, Nat.le_refl _, by decide, fun h => by simp at h, fun j v hj => ⟨g, 0, rfl, ?_⟩⟩
  match j, hj with
  | 0, hj => simp at hj; subst hj; exact h
  | j + 1, hj => simp at hj

/-- the types of a slice: its own, its element's; a zero element, in cells and bytes -/
structure El (P : Program) (t e : TypeId) (z : Value) (size bytes : Nat) : Prop where
  ht : P.underlying t = some (.slice e)
  hi : (P.info? e).map (fun i => (i.zero, i.size, i.bytes)) = some (some z, size, bytes)
  hz : z.cells.size = size
  h0 : 0 < size

theorem nums_oneCell (k : IntKind) (l : List Nat) : ∀ u ∈ nums k l, u.oneCell' = true := by
  intro u hu
  simp only [nums, List.mem_map] at hu
  obtain ⟨x, _, rfl⟩ := hu
  rfl

/-- append to a slice of one's own, of whatever row -/
theorem wpList_app {P : Program} {t e : TypeId} {z : Value} {size bytes : Nat} (E : El P t e z size bytes) {w : World} {ops : Array Oper} {rest : List Oper} {o : Oper} {a : Act} {Q : Exit → Act → World → Prop}
    (hg : o.guard = none) (s x : Operand) (hop : o.op = .call { callee := .builtin .append, args := #[s, x], argTypes := #[t, t] })
    (base : Nat) (v : Value) (n : Nat) (xs : List Value) (hs : a.eval s = v) (hown : w.ownsRow base e size v n xs)
    (ao : Option Addr) (m c : Nat) (ys : List Value) (hx : a.eval x = .slice ao m c) (hy : Row w size ao m c ys) (h1 : ∀ u ∈ ys, u.oneCell' = true)
    (h63 : n + m ≤ maxLen) (hbytes : (n + m) * bytes ≤ 140737488355328) (hbase : base ≤ w.heap.size)
    (h : ∀ v' w', w'.ownsRow base e size v' (n + m) (xs ++ ys) → Below base w w' → w.grownBy w' v.ownBlock → wpList P ops Q rest (a.put o.dst v') w') : wpList P ops Q (o :: rest) a w := by
  obtain ⟨i, hi, hz0, hz1, hz2⟩ := info_parts E.hi
  cases ao with
  | none =>
    have hc := hy.2.2.2.1 rfl
    have hm : m = 0 := by have := hy.2.1; omega
    subst hc; subst hm
    have hys : ys = [] := List.eq_nil_of_length_eq_zero (by have := hy.1; simpa using this)
    subst hys
    refine wpList_append_own_none hg s x t hop base e i size E.ht hi v n xs hs hown hx ?_
    exact h v w (by simpa using hown) (Below.refl _ _) (World.grownBy.refl _ _)
  | some ad =>
    refine wpList_append_own w hg s x t hop base e i z size bytes E.ht hi hz0 hz1 hz2 E.hz E.h0 v n xs hs hown ad m c ys hx hy.1 ?_ h1 h63 hbytes hbase (fun v' w' h2 h3 _ => h v' w' h2 ((Below.refl _ _).grown h3 hbase fun b hb => (hown.lt b hb).1) h3)
    intro j u hj
    obtain ⟨b, off, ha, hc⟩ := hy.2.2.2.2 j u hj
    cases ha
    rw [Addr.add_lit]
    exact hc

/-- append of one element of one cell, laid in a new block -/
theorem wpList_push {P : Program} {t e : TypeId} {z : Value} {bytes : Nat} (E : El P t e z 1 bytes) {w : World} {ops : Array Oper} {rest : List Oper} {o : Oper} {a : Act} {Q : Exit → Act → World → Prop}
    (hg : o.guard = none) (s x : Operand) (hop : o.op = .call { callee := .builtin .append, args := #[s, x], argTypes := #[t, t] })
    (base : Nat) (v : Value) (n : Nat) (xs : List Value) (hs : a.eval s = v) (hown : w.ownsRow base e 1 v n xs)
    (g : Nat) (u : Value) (hx : a.eval x = .slice (some ⟨g, 0, none⟩) 1 1) (hc : w.cell? ⟨g, 0, none⟩ = some u) (h1 : u.oneCell' = true)
    (h63 : n + 1 ≤ maxLen) (hbytes : (n + 1) * bytes ≤ 140737488355328) (hbase : base ≤ w.heap.size)
    (h : ∀ v' w', w'.ownsRow base e 1 v' (n + 1) (xs ++ [u]) → Below base w w' → w.grownBy w' v.ownBlock → wpList P ops Q rest (a.put o.dst v') w') : wpList P ops Q (o :: rest) a w :=
  wpList_app E hg s x hop base v n xs hs hown _ 1 1 [u] hx (Row.one hc) (fun x hx => by simp at hx; subst hx; exact h1) h63 hbytes hbase h

/-- make([]T, 0, n) -/
theorem wpList_mk0 {P : Program} {t e : TypeId} {z : Value} {size bytes : Nat} (E : El P t e z size bytes) {w : World} {ops : Array Oper} {rest : List Oper} {o : Oper} {a : Act} {Q : Exit → Act → World → Prop}
    (hg : o.guard = none) (l c : Operand) (hop : o.op = Op.makeSlice t l c)
    (base : Nat) (kl kc : IntKind) (C : Int) (n : Nat) (hl : a.eval l = .int kl 0) (hc : a.eval c = .int kc C) (hC : C = (n : Int)) (b2 : bytes * n ≤ 281474976710656) (b3 : n ≤ maxLen) (b4 : base ≤ w.heap.size)
    (hK : ∀ w', w'.ownsRow base e size (.slice (some ⟨w.heap.size, 0, none⟩) 0 n) 0 [] → w.grownBy w' none → wpList P ops Q rest (a.put o.dst (.slice (some ⟨w.heap.size, 0, none⟩) 0 n)) w') :
    wpList P ops Q (o :: rest) a w := by
  obtain ⟨i, hi, hz0, hz1, hz2⟩ := info_parts E.hi
  exact wpList_make_own w hg l c t hop base e i z size E.ht hi hz0 hz1 kl kc C n hl hc hC (by rw [hz2]; exact b2) b3 b4 hK

/-- make([]T, n) -/
theorem wpList_mkn {P : Program} {t e : TypeId} {z : Value} {size bytes : Nat} (E : El P t e z size bytes) {w : World} {ops : Array Oper} {rest : List Oper} {o : Oper} {a : Act} {Q : Exit → Act → World → Prop}
    (hg : o.guard = none) (l c : Operand) (hop : o.op = Op.makeSlice t l c)
    (base : Nat) (kl kc : IntKind) (L C : Int) (n : Nat) (hl : a.eval l = .int kl L) (hc : a.eval c = .int kc C) (hL : L = (n : Int)) (hC : C = (n : Int)) (b2 : bytes * n ≤ 281474976710656) (b3 : n ≤ maxLen) (b4 : base ≤ w.heap.size)
    (hK : ∀ w', w'.ownsRow base e size (.slice (some ⟨w.heap.size, 0, none⟩) n n) n (madeCells z.cells (n * size)).toList → w.grownBy w' none → wpList P ops Q rest (a.put o.dst (.slice (some ⟨w.heap.size, 0, none⟩) n n)) w') :
    wpList P ops Q (o :: rest) a w := by
  obtain ⟨i, hi, hz0, hz1, hz2⟩ := info_parts E.hi
  exact wpList_make_full w hg l c t hop base e i z size E.ht hi hz0 hz1 kl kc L C n hl hc hL hC (by rw [hz2]; exact b2) b3 b4 hK

/-- what is owned reads on, behind what wrote elsewhere -/
theorem ownsRow_below {w w' : World} {base : Nat} {e : TypeId} {size : Nat} {v : Value} {n : Nat} {xs : List Value} (h : w.ownsRow base e size v n xs) (hb : Below w.heap.size w w') :
    w'.ownsRow base e size v n xs := h.kept (row := none) ⟨hb.os, hb.tape, hb.output, hb.size, fun k hk _ => hb.block k hk⟩ (by cases v.ownBlock <;> simp)
/-- what one owns from a base on one owns from a lower one on -/
theorem ownsRow_base {w : World} {base base' : Nat} {e : TypeId} {size : Nat} {v : Value} {n : Nat} {xs : List Value} (h : w.ownsRow base e size v n xs) (hb : base' ≤ base) :
    w.ownsRow base' e size v n xs := by
  obtain ⟨h1, h2⟩ := h
  refine ⟨h1, ?_⟩
  rcases h2 with h2 | ⟨g, cap, cur, hv, hg, r⟩
  · exact .inl h2
  · exact .inr ⟨g, cap, cur, hv, Nat.le_trans hb hg, r⟩
/-- a slice of one's own is a slice -/
theorem ownsRow_slice {w : World} {base : Nat} {e : TypeId} {size : Nat} {v : Value} {n : Nat} {xs : List Value} (h : w.ownsRow base e size v n xs) :
    ∃ a cap, v = .slice a n cap ∧ Row w size a n cap xs := by
  have h' := h
  obtain ⟨_, h2⟩ := h'
  rcases h2 with ⟨rfl, rfl⟩ | ⟨g, cap, cur, rfl, _⟩
  · exact ⟨none, 0, rfl, (Row.owned h).2⟩
  · exact ⟨_, cap, rfl, (Row.owned h).2⟩
/-- where there is an element there is a block -/
theorem own_some {w : World} {base : Nat} {e : TypeId} {size : Nat} {a : Option Addr} {n cap : Nat} {xs : List Value} (h : w.ownsRow base e size (.slice a n cap) n xs) (hn : 0 < n) :
    ∃ g, a = some ⟨g, 0, none⟩ := by
  rcases h.2 with ⟨_, h0⟩ | ⟨g, c, cur, hv, _⟩
  · omega
  · cases hv; exact ⟨g, rfl⟩
/-- a cell that a call has kept -/
theorem keep {B : Nat} {w w' : World} {b o : Nat} {v : Value} (hb : Below B w w') (h : w.cell? ⟨b, o, none⟩ = some v) (hlt : b < B) : w'.cell? ⟨b, o, none⟩ = some v := by
  rw [hb.cell (p := ⟨b, o, none⟩) hlt]; exact h
theorem kept {w w' : World} {b o : Nat} {v : Value} (hb : Below w.heap.size w w') (h : w.cell? ⟨b, o, none⟩ = some v) : w'.cell? ⟨b, o, none⟩ = some v :=
  keep hb h (World.block_lt_of_cell? w _ h)
theorem new2 (w : World) (x y : Value) (t : TypeId) : (w.alloc (.cells #[x, y] t)).cell? ⟨w.heap.size, 0, none⟩ = some x ∧ (w.alloc (.cells #[x, y] t)).cell? ⟨w.heap.size, 1, none⟩ = some y := by
  constructor <;> simp
theorem below_put {B : Nat} {a w : World} (h : Below B a w) (hB : B ≤ w.heap.size) {w' : World} (o : Obj) (k : Below (w.alloc o).heap.size (w.alloc o) w') : Below B a w' :=
  (h.alloc hB o).trans (k.mono (by simp; omega))
theorem below_growns {B : Nat} {w w' : World} (h : w.grownBy w' none) (hB : B ≤ w.heap.size) : Below B w w' :=
  (Below.refl B w).grown h hB (fun k h => by cases h)

theorem Row.fresh3 (w : World) (a b c : Value) (e : TypeId) : Row (w.alloc (.cells #[a, b, c] e)) 3 (some ⟨w.heap.size, 0, none⟩) 1 1 [a, b, c] := by
  refine ⟨rfl, Nat.le_refl _, by decide, fun h => by simp at h, fun j u hj => ⟨w.heap.size, 0, rfl, ?_⟩⟩
  rw [World.cell?_alloc_mark, Nat.zero_add]
  simpa using hj
theorem oneCell3 {a b c : Value} (ha : a.oneCell' = true) (hb : b.oneCell' = true) (hc : c.oneCell' = true) : ∀ u ∈ [a, b, c], u.oneCell' = true := by
  intro u hu
  simp at hu
  rcases hu with rfl | rfl | rfl <;> assumption
theorem Row.fresh2 (w : World) (a b : Value) (e : TypeId) : Row (w.alloc (.cells #[a, b] e)) 2 (some ⟨w.heap.size, 0, none⟩) 1 1 [a, b] := by
  refine ⟨rfl, Nat.le_refl _, by decide, fun h => by simp at h, fun j u hj => ⟨w.heap.size, 0, rfl, ?_⟩⟩
  rw [World.cell?_alloc_mark, Nat.zero_add]
  simpa using hj
theorem oneCell2 {a b : Value} (ha : a.oneCell' = true) (hb : b.oneCell' = true) : ∀ u ∈ [a, b], u.oneCell' = true := by
  intro u hu
  simp at hu
  rcases hu with rfl | rfl <;> assumption

/-- a row of numbers that one owns, at the head of block g -/
abbrev OwnN (w : World) (base : Nat) (e : TypeId) (k : IntKind) (g n cap : Nat) (l : List Nat) : Prop :=
  w.ownsRow base e 1 (.slice (some ⟨g, 0, none⟩) n cap) n (nums k l)
theorem OwnN.len {w : World} {base : Nat} {e : TypeId} {k : IntKind} {g n cap : Nat} {l : List Nat} (h : OwnN w base e k g n cap l) : l.length = n := by
  have := h.1; rw [nums_length] at this; omega
theorem OwnN.cell {w : World} {base : Nat} {e : TypeId} {k : IntKind} {g n cap : Nat} {l : List Nat} (h : OwnN w base e k g n cap l) {j : Nat} (hj : j < l.length) :
    w.cell? ⟨g, j, none⟩ = some (.int k ((l[j] : Nat) : Int)) := by
  have := h.len
  rw [World.ownsRow.cellAt h j (by omega), nums_get hj]
theorem OwnN.set {w : World} {base : Nat} {e : TypeId} {k : IntKind} {g n cap : Nat} {l : List Nat} (h : OwnN w base e k g n cap l) (j x : Nat) :
    OwnN (w.setCell ⟨g, j, none⟩ (.int k (x : Int))) base e k g n cap (l.set j x) := by
  have := (World.ownsRow.stored h j (.int k (x : Int))).1
  have e2 : nums k (l.set j x) = (nums k l).set j (.int k (x : Int)) := by simp [nums, List.map_set]
  show World.ownsRow _ _ _ _ _ _ _
  rw [e2]; exact this
theorem mod256 (x : Nat) : (((x : Int) + 1) % 256) = (((x + 1) % 256 : Nat) : Int) := by omega
theorem OwnN.nums {w : World} {base : Nat} {e : TypeId} {k : IntKind} {g n cap : Nat} {l : List Nat} (h : OwnN w base e k g n cap l) :
    Nums k w (some ⟨g, 0, none⟩) n cap l := (Row.owned h).2
theorem OwnN.lt {w : World} {base : Nat} {e : TypeId} {k : IntKind} {g n cap : Nat} {l : List Nat} (h : OwnN w base e k g n cap l) : base ≤ g ∧ g < w.heap.size :=
  World.ownsRow.lt h g rfl

/-- a block that has just been laid, read whole -/
theorem Row.fresh (w : World) (cs : Array Value) (e : TypeId) (fr : Nat × Nat) (n : Nat) (hn : n = cs.size) (hm : n ≤ maxLen) :
    Row (w.alloc (.cells cs e fr)) 1 (some ⟨w.heap.size, 0, none⟩) n n cs.toList := by
  subst hn
  refine ⟨by simp, Nat.le_refl _, hm, fun h => by simp at h, fun j u hj => ⟨w.heap.size, 0, rfl, ?_⟩⟩
  rw [World.cell?_alloc_mark, Nat.zero_add]
  simpa using hj

/-- a slice of integers that came in: nil, or a row of 'cap' cells, the numbers zs -/
def IsRow (k : IntKind) (w : World) (a : Option Addr) (len cap : Nat) (zs : List Int) : Prop :=
  (a = none ∧ len = 0 ∧ cap = 0 ∧ zs = []) ∨
  ∃ x, a = some x ∧ len ≤ cap ∧ cap ≤ maxLen ∧ zs.length = cap ∧ (∀ i, i < zs.length → w.cell? (x.add i) = some (.int k (zs.getD i 0))) ∧ ∀ n ∈ zs, (Lit.int k n).wf = true

theorem nat_of {k : IntKind} (hk : k.signed = false) {n : Int} (h : (Lit.int k n).wf = true) : 0 ≤ n ∧ n.toNat < 2 ^ k.bits := by
  simp only [Lit.wf, IntKind.min, IntKind.max, hk, Bool.and_eq_true, decide_eq_true_eq] at h
  cases k <;> simp [IntKind.signed] at hk <;> simp [IntKind.bits] at h ⊢ <;> omega

theorem int_of {n : Int} (h : (Lit.int .i64 n).wf = true) : -9223372036854775808 ≤ n ∧ n ≤ 9223372036854775807 := by
  simp [Lit.wf, IntKind.min, IntKind.max, IntKind.signed, IntKind.bits] at h
  exact h

/-- as natural numbers, where the kind has no sign -/
theorem nums_of {k : IntKind} (hk : k.signed = false) {w : World} {a : Option Addr} {len cap : Nat} {zs : List Int} (h : IsRow k w a len cap zs) :
    ∃ l : List Nat, Nums k w a len cap l ∧ ∀ x ∈ l, x < 2 ^ k.bits := by
  rcases h with ⟨rfl, rfl, rfl, rfl⟩ | ⟨x, rfl, hl, hm, hz, hc, hw⟩
  · exact ⟨[], Nums.nil k w, by simp⟩
  · refine ⟨(zs.take len).map Int.toNat, ⟨?_, hl, hm, fun h => by simp at h, fun j u hj => ?_⟩, ?_⟩
    · simp [nums]; omega
    · have hjl : j < len := by
        have := (List.getElem?_eq_some_iff.1 hj).1
        simp [nums] at this; omega
      have h1 := hc j (by omega)
      obtain ⟨b, off, spot⟩ := x
      have hs : spot = none := by
        have h0 := hc 0 (by omega)
        simpa [Addr.add] using World.cell?_spot h0
      subst hs
      refine ⟨b, off, rfl, ?_⟩
      rw [Addr.add_lit] at h1
      rw [h1]
      have hjz : j < zs.length := by omega
      have hw' := nat_of hk (hw _ (List.getElem_mem hjz))
      have hu : u = .int k (zs[j]) := by
        have h2 : (nums k ((zs.take len).map Int.toNat))[j]? = some (.int k ((zs[j].toNat : Nat) : Int)) := by
          simp [nums, hjl, hjz]
        rw [h2] at hj
        rw [← Option.some.inj hj, Int.toNat_of_nonneg hw'.1]
      rw [hu, List.getD_eq_getElem?_getD, List.getElem?_eq_getElem hjz]
      rfl
    · intro y hy
      simp only [List.mem_map] at hy
      obtain ⟨z, hz', rfl⟩ := hy
      exact (nat_of hk (hw z (List.mem_of_mem_take hz'))).2
end Go.Proofs.YtagbnacffiagcaaDoor.Mem
