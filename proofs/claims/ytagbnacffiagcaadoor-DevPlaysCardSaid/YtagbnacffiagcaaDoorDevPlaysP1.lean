/- Plain facts about the sum of chapter 2: one step by a bit is linear and one-to-one on words of 32 bits; so are many. No program stands here; Memory, as the walks of this seat speak of it: a slice that reads as a list; what stays when blocks are made; The walks of package breviaryref that many laws use: bytes copied, held against one another; The walks of package crc: each function computes the plain sum's words; The walk of breviaryref1.Turned; Maps keyed by an int: of rows of bytes, of bools; Sets: maps of bools that hold what is true alone; how many; What a row's listed error variables give a walk: each variable holds a pointer of its own; The walks of package breviarysee: an error as plain data. -/
import Derived.WalkKit
import Derived.WalkSmall
import Derived.Laws.AppendOwnNone
import Derived.Laws.CopyOwn
import Derived.Test.YtagbnacffiagcaaDoorProg
import Derived.Deep.DeepMust
import Derived.Deep.QuietTactic
import Derived.BigQuiet
import Derived.WalkSpells
import Derived.Lib.SlBytesConst
import Derived.Maps.OwnOps
import Derived.Maps.OwnSet
import Derived.Maps.RangeWalk
import Derived.Maps.Ext
import Derived.LaidLaws
import Derived.LaidMore
import Derived.LaidHandle
import Derived.MakeChecks
import Derived.Stop.LaidErr
import Derived.KernelRfl
import Derived.Below
import Derived.LaidEql
import Derived.LaidEqlPtr
namespace Go.Proofs.YtagbnacffiagcaaDoor.Crc

def P : Nat := 2197175160
def W : Nat := 4294967296
/-- one bit's step -/
def bit (n : Nat) : Nat := if n % 2 = 1 then n / 2 ^^^ P else n / 2
/-- k bits' steps -/
def bits : Nat → Nat → Nat
  | 0, n => n
  | k + 1, n => bits k (bit n)
/-- a byte's step -/
def step (n : Nat) : Nat := bits 8 n
theorem step_def (n : Nat) : step n = bits 8 n := rfl
attribute [irreducible] step
/-- the words that come of bytes -/
def run : Nat → List Nat → Nat
  | s, [] => s
  | s, c :: l => run (step (s ^^^ c)) l
/-- the sum -/
def sum (l : List Nat) : Nat := run (W - 1) l ^^^ (W - 1)

theorem xor_lt {a b : Nat} (ha : a < W) (hb : b < W) : a ^^^ b < W := Nat.xor_lt_two_pow (n := 32) ha hb
theorem xor_div (a b : Nat) : (a ^^^ b) / 2 = a / 2 ^^^ b / 2 := by
  have := Nat.shiftRight_xor_distrib (a := a) (b := b) (i := 1)
  simpa [Nat.shiftRight_succ] using this
theorem xor_mod (a b : Nat) : (a ^^^ b) % 2 = (a % 2 + b % 2) % 2 := by
  have := Nat.xor_mod_two_eq_one (a := a) (b := b)
  omega

theorem bit_lt {n : Nat} (h : n < W) : bit n < W := by
  unfold bit
  split
  · exact xor_lt (by simp only [W] at *; omega) (by decide)
  · simp only [W] at *; omega
theorem bit_xor (a b : Nat) : bit (a ^^^ b) = bit a ^^^ bit b := by
  unfold bit
  rw [xor_div, xor_mod]
  rcases Nat.mod_two_eq_zero_or_one a with ha | ha <;> rcases Nat.mod_two_eq_zero_or_one b with hb | hb <;> simp only [ha, hb]
  · simp
  · simp [Nat.xor_assoc]
  · simp only [if_true, show (0 : Nat) ≠ 1 by omega, if_false]
    rw [Nat.xor_assoc, Nat.xor_comm (b / 2), ← Nat.xor_assoc]
  · simp only [show (1 + 1) % 2 = 0 from rfl, show (0 : Nat) ≠ 1 by omega, if_false, if_true]
    rw [Nat.xor_assoc, Nat.xor_comm P, Nat.xor_assoc, Nat.xor_self, Nat.xor_zero]
theorem bit_zero : bit 0 = 0 := by decide
theorem bit_eq_zero {n : Nat} (h : n < W) (hb : bit n = 0) : n = 0 := by
  unfold bit at hb
  split at hb
  · have h1 : n / 2 = P := by
      have := congrArg (· ^^^ P) hb
      simpa [Nat.xor_assoc] using this
    simp only [W, P] at *; omega
  · omega
theorem bits_lt (k : Nat) : ∀ {n : Nat}, n < W → bits k n < W := by
  induction k with
  | zero => intro n h; exact h
  | succ k ih => intro n h; exact ih (bit_lt h)
theorem bits_xor (k : Nat) : ∀ a b, bits k (a ^^^ b) = bits k a ^^^ bits k b := by
  induction k with
  | zero => intro a b; rfl
  | succ k ih => intro a b; simp only [bits, bit_xor, ih]
theorem bits_zero (k : Nat) : bits k 0 = 0 := by
  induction k with
  | zero => rfl
  | succ k ih => simp only [bits, bit_zero, ih]
theorem bits_eq_zero (k : Nat) : ∀ {n : Nat}, n < W → bits k n = 0 → n = 0 := by
  induction k with
  | zero => intro n _ h; exact h
  | succ k ih => intro n h hb; exact bit_eq_zero h (ih (bit_lt h) hb)
theorem bits_add (j k n : Nat) : bits (j + k) n = bits k (bits j n) := by
  induction j generalizing n with
  | zero => simp [bits]
  | succ j ih => rw [Nat.add_right_comm]; simp only [bits, ih]
theorem bits_snoc (k n : Nat) : bits (k + 1) n = bit (bits k n) := by rw [bits_add]; rfl
/-- bits that stand high enough are only moved -/
theorem bits_high (k : Nat) : ∀ n, bits k (n * 2 ^ k) = n := by
  induction k with
  | zero => intro n; simp [bits]
  | succ k ih =>
    intro n
    have h2 : n * 2 ^ (k + 1) = 2 * (n * 2 ^ k) := by rw [Nat.pow_succ, ← Nat.mul_assoc, Nat.mul_comm]
    have : bit (n * 2 ^ (k + 1)) = n * 2 ^ k := by
      rw [h2]; unfold bit
      rw [if_neg (by omega)]
      omega
    simp only [bits, this, ih]
theorem step_lt {n : Nat} (h : n < W) : step n < W := by rw [step_def]; exact bits_lt 8 h
theorem step_xor (a b : Nat) : step (a ^^^ b) = step a ^^^ step b := by rw [step_def, step_def, step_def]; exact bits_xor 8 a b
theorem step_inj {a b : Nat} (ha : a < W) (hb : b < W) (h : step a = step b) : a = b := by
  have h1 : step (a ^^^ b) = 0 := by rw [step_xor, h, Nat.xor_self]
  rw [step_def] at h1
  have h2 := bits_eq_zero 8 (xor_lt ha hb) h1
  have := congrArg (· ^^^ b) h2
  simpa [Nat.xor_assoc] using this

def Bytes (l : List Nat) : Prop := ∀ x ∈ l, x < 256
theorem Bytes.head {c : Nat} {l : List Nat} (h : Bytes (c :: l)) : c < 256 := h c (by simp)
theorem Bytes.tail {c : Nat} {l : List Nat} (h : Bytes (c :: l)) : Bytes l := fun x hx => h x (by simp [hx])
theorem byte_lt {c : Nat} (h : c < 256) : c < W := by simp only [W]; omega

theorem run_lt (l : List Nat) : ∀ {s : Nat}, s < W → Bytes l → run s l < W := by
  induction l with
  | nil => intro s h _; exact h
  | cons c l ih => intro s h hb; exact ih (step_lt (xor_lt h (byte_lt hb.head))) hb.tail
theorem run_append (a b : List Nat) : ∀ s, run s (a ++ b) = run (run s a) b := by
  induction a with
  | nil => intro s; rfl
  | cons c l ih => intro s; exact ih _
theorem run_snoc (a : List Nat) (c s : Nat) : run s (a ++ [c]) = step (run s a ^^^ c) := run_append a [c] s
theorem run_inj (l : List Nat) : ∀ {s t : Nat}, s < W → t < W → Bytes l → run s l = run t l → s = t := by
  induction l with
  | nil => intro s t _ _ _ h; exact h
  | cons c l ih =>
    intro s t hs ht hb h
    have hc := byte_lt hb.head
    have h1 := step_inj (xor_lt hs hc) (xor_lt ht hc) (ih (step_lt (xor_lt hs hc)) (step_lt (xor_lt ht hc)) hb.tail h)
    have := congrArg (· ^^^ c) h1
    simpa [Nat.xor_assoc] using this
/-- what turns two lists into one another turns their words into one another -/
def turn : List Nat → List Nat → List Nat
  | a :: l, b :: m => (a ^^^ b) :: turn l m
  | _, _ => []
theorem run_xor (a : List Nat) : ∀ (b : List Nat) (s t : Nat), a.length = b.length → run s a ^^^ run t b = run (s ^^^ t) (turn a b) := by
  induction a with
  | nil =>
    intro b s t h
    obtain rfl : b = [] := by cases b; rfl; simp at h
    rfl
  | cons x l ih =>
    intro b s t h
    cases b with
    | nil => simp at h
    | cons y m =>
      have e : s ^^^ x ^^^ (t ^^^ y) = s ^^^ t ^^^ (x ^^^ y) := by
        rw [Nat.xor_assoc, ← Nat.xor_assoc x, Nat.xor_comm x, Nat.xor_assoc t, ← Nat.xor_assoc s]
      show run (step (s ^^^ x)) l ^^^ run (step (t ^^^ y)) m = run (step (s ^^^ t ^^^ (x ^^^ y))) (turn l m)
      rw [ih m (step (s ^^^ x)) (step (t ^^^ y)) (by simpa using h), ← step_xor, e]

theorem top_lt : W - 1 < W := by decide
theorem sum_lt {l : List Nat} (h : Bytes l) : sum l < W := by
  unfold sum
  exact xor_lt (run_lt l top_lt h) top_lt
theorem sum_inj {a b : List Nat} (h : sum a = sum b) : run (W - 1) a = run (W - 1) b := by
  have := congrArg (· ^^^ (W - 1)) h
  simpa [sum, Nat.xor_assoc] using this
theorem sum_nil : sum [] = 0 := by decide

/-- one byte that differs -/
theorem sum_one (a b : List Nat) (x y : Nat) (ha : Bytes a) (hb : Bytes b) (hx : x < 256) (hy : y < 256) :
    (sum (a ++ x :: b) = sum (a ++ y :: b)) ↔ x = y := by
  constructor
  · intro h
    have h1 := sum_inj h
    rw [run_append, run_append] at h1
    have hr := run_lt a (s := W - 1) (by decide) ha
    have h2 := run_inj b (step_lt (xor_lt hr (byte_lt hx))) (step_lt (xor_lt hr (byte_lt hy))) hb h1
    have h3 := step_inj (xor_lt hr (byte_lt hx)) (xor_lt hr (byte_lt hy)) h2
    have := congrArg (run (W - 1) a ^^^ ·) h3
    simpa [← Nat.xor_assoc] using this
  · rintro rfl; rfl

/-- the table -/
def tab (k : Nat) : List Nat := (List.range 256).map fun i => if i < k then step i else 0
theorem tab_length (k : Nat) : (tab k).length = 256 := by simp [tab]
theorem tab_get (k i : Nat) (h : i < 256) : (tab k)[i]? = some (if i < k then step i else 0) := by simp [tab, h]
theorem tab_zero : tab 0 = List.replicate 256 0 := by
  apply List.ext_getElem?
  intro i
  by_cases h : i < 256
  · rw [tab_get 0 i h, List.getElem?_replicate, if_pos h, if_neg (by omega)]
  · rw [List.getElem?_eq_none (by rw [tab_length]; omega), List.getElem?_replicate, if_neg h]
theorem tab_set (k : Nat) (_h : k < 256) : (tab k).set k (step k) = tab (k + 1) := by
  apply List.ext_getElem?
  intro i
  by_cases hi : i < 256
  · rw [tab_get _ i hi, List.getElem?_set, tab_length]
    by_cases e : k = i
    · subst e; simp [hi]
    · rw [if_neg e, tab_get _ i hi]
      by_cases h2 : i < k
      · rw [if_pos h2, if_pos (by omega)]
      · rw [if_neg h2, if_neg (by omega)]
  · rw [List.getElem?_eq_none (by simp [tab_length]; omega), List.getElem?_eq_none (by rw [tab_length]; omega)]

/-- byte i of a word -/
def byteOf (t i : Nat) : Nat := (t >>> (8 * i)) % 256
/-- one byte turned -/
def turn1 (l : List Nat) (at_ : Int) (t i : Nat) : List Nat :=
  if 0 ≤ at_ ∧ at_ < (l.length : Int) - i then l.set (at_.toNat + i) (l.getD (at_.toNat + i) 0 ^^^ byteOf t i) else l
/-- the first k bytes turned -/
def turnK (l : List Nat) (at_ : Int) (t : Nat) : Nat → List Nat
  | 0 => l
  | k + 1 => turn1 (turnK l at_ t k) at_ t k
def turned (l : List Nat) (at_ : Int) (t : Nat) : List Nat := turnK l at_ t 4
theorem turn1_length (l : List Nat) (at_ : Int) (t i : Nat) : (turn1 l at_ t i).length = l.length := by
  unfold turn1; split <;> simp
theorem turnK_length (l : List Nat) (at_ : Int) (t k : Nat) : (turnK l at_ t k).length = l.length := by
  induction k with
  | zero => rfl
  | succ k ih => rw [turnK, turn1_length, ih]
theorem byteOf_lt (t i : Nat) : byteOf t i < 256 := Nat.mod_lt _ (by decide)
theorem xor_byte {a b : Nat} (ha : a < 256) (hb : b < 256) : a ^^^ b < 256 := Nat.xor_lt_two_pow (n := 8) ha hb
theorem turn1_bytes {l : List Nat} (h : Bytes l) (at_ : Int) (t i : Nat) : Bytes (turn1 l at_ t i) := by
  unfold turn1
  split
  · rename_i hc
    intro x hx
    rcases List.mem_or_eq_of_mem_set hx with h1 | h1
    · exact h x h1
    · subst h1
      refine xor_byte ?_ (byteOf_lt _ _)
      have hj : at_.toNat + i < l.length := by omega
      rw [List.getD_eq_getElem?_getD, List.getElem?_eq_getElem hj]
      exact h _ (List.getElem_mem hj)
  · exact h
theorem turnK_bytes {l : List Nat} (h : Bytes l) (at_ : Int) (t k : Nat) : Bytes (turnK l at_ t k) := by
  induction k with
  | zero => exact h
  | succ k ih => exact turn1_bytes ih _ _ _

/-- a word of the table, and what is above the lowest byte -/
theorem step_tab (s c : Nat) : step (s ^^^ c) = step ((s % 256) ^^^ c) ^^^ s / 256 := by
  have h1 : s = (s % 256) ^^^ (s / 256 * 256) := by
    have := Nat.two_pow_add_eq_or_of_lt (i := 8) (b := s % 256) (Nat.mod_lt _ (by decide)) (s / 256)
    have h2 : (s / 256 * 256) ^^^ (s % 256) = s / 256 * 256 + s % 256 := by
      apply Nat.eq_of_testBit_eq
      intro i
      have h3 : s / 256 * 256 + s % 256 = 2 ^ 8 * (s / 256) + s % 256 := congrArg (· + s % 256) (Nat.mul_comm _ _)
      rw [h3, this, Nat.testBit_xor, Nat.testBit_or]
      have h4 : s / 256 * 256 = 2 ^ 8 * (s / 256) := Nat.mul_comm _ _
      rw [h4, Nat.testBit_two_pow_mul]
      by_cases hi : 8 ≤ i
      · have : (s % 256).testBit i = false := by
          apply Nat.testBit_lt_two_pow
          exact Nat.lt_of_lt_of_le (Nat.mod_lt _ (by decide)) (Nat.pow_le_pow_right (n := 2) (by decide) hi)
        simp [this]
      · simp [hi]
    rw [Nat.xor_comm, h2]; omega
  have h5 : s ^^^ c = ((s % 256) ^^^ c) ^^^ (s / 256 * 256) := by
    rw [Nat.xor_assoc, Nat.xor_comm c, ← Nat.xor_assoc, ← h1]
  have h6 : step (s / 256 * 256) = s / 256 := by rw [step_def]; exact bits_high 8 (s / 256)
  rw [h5, step_xor, h6]

/-- words of the table -/
theorem tab_at {i : Nat} (h : i < 256) : (tab 256)[i]? = some (step i) := by rw [tab_get _ _ h, if_pos h]
theorem step_eq {i j : Nat} (hi : i < 256) (hj : j < 256) : step i = step j ↔ i = j :=
  ⟨fun h => step_inj (byte_lt hi) (byte_lt hj) h, fun h => by rw [h]⟩
end Go.Proofs.YtagbnacffiagcaaDoor.Crc

namespace Go.Proofs.YtagbnacffiagcaaDoor.Mem
open Go Go.RowKit

/-- a slice's n elements, 'size' cells each, are the cells xs -/
def Row (w : World) (size : Nat) (a : Option Addr) (n cap : Nat) (xs : List Value) : Prop :=
  xs.length = n * size ∧ n ≤ cap ∧ cap ≤ maxLen ∧ (a = none → cap = 0) ∧
    ∀ j u, xs[j]? = some u → ∃ b off, a = some ⟨b, off, none⟩ ∧ w.cell? ⟨b, off + j, none⟩ = some u

/-- a fact kept from the walk -/
theorem hid {p : Prop} (h : p) : Hid p := h
theorem ret_bool {a b : Bool} (h : a = b) : Ending.returned (.bool a) = .returned (.bool b) := by rw [h]
theorem ret_int {k : IntKind} {a b : Int} (h : a = b) : Ending.returned (.int k a) = .returned (.int k b) := by rw [h]
theorem beq_cast {a b c d : Nat} (h : a = b ↔ c = d) : (((a : Int) == (b : Int)) == ((c : Int) == (d : Int))) = true := by
  by_cases e : a = b
  · have e' := h.1 e; subst e; subst e'; simp
  · have e' : ¬ c = d := fun x => e (h.2 x)
    have h1 : ((a : Int) == (b : Int)) = false := by simp; omega
    have h2 : ((c : Int) == (d : Int)) = false := by simp; omega
    rw [h1, h2]; rfl

/-- numbers of a kind as cells -/
def nums (k : IntKind) (l : List Nat) : List Value := l.map fun (x : Nat) => .int k (x : Int)

/-- a slice of numbers -/
def Nums (k : IntKind) (w : World) (a : Option Addr) (n cap : Nat) (l : List Nat) : Prop := Row w 1 a n cap (nums k l)

theorem nums_length (k : IntKind) (l : List Nat) : (nums k l).length = l.length := by simp [nums]
theorem nums_take_succ (k : IntKind) (l : List Nat) (j : Nat) (h : j < l.length) : nums k (l.take (j + 1)) = nums k (l.take j) ++ [.int k ((l[j] : Nat) : Int)] := by
  rw [List.take_succ_eq_append_getElem h]
  unfold nums
  rw [List.map_append]
  rfl
theorem nums_get {k : IntKind} {l : List Nat} {j : Nat} (h : j < l.length) : (nums k l)[j]? = some (.int k ((l[j] : Nat) : Int)) := by simp [nums, h]

theorem Row.keep {w w' : World} {size : Nat} {a : Option Addr} {n cap : Nat} {xs : List Value} (h : Row w size a n cap xs)
    (hk : ∀ b o, a = some ⟨b, o, none⟩ → b < w.heap.size → w'.heap[b]? = w.heap[b]?) : Row w' size a n cap xs := by
  obtain ⟨h1, h2, h3, h4, h5⟩ := h
  refine ⟨h1, h2, h3, h4, fun j u hj => ?_⟩
  obtain ⟨b, off, ha, hc⟩ := h5 j u hj
  refine ⟨b, off, ha, ?_⟩
  have hlt := World.block_lt_of_cell? w ⟨b, off + j, none⟩ hc
  rw [World.cell?_of_block (w := w) (hk b off ha hlt)]
  exact hc
theorem Row.below {w w' : World} {size : Nat} {a : Option Addr} {n cap : Nat} {xs : List Value} (h : Row w size a n cap xs)
    (hb : Below w.heap.size w w') : Row w' size a n cap xs := h.keep fun b _ _ hlt => hb.block b hlt
theorem Nums.below {k : IntKind} {w w' : World} {a : Option Addr} {n cap : Nat} {l : List Nat} (h : Nums k w a n cap l)
    (hb : Below w.heap.size w w') : Nums k w' a n cap l := Row.below h hb
theorem Nums.len {k : IntKind} {w : World} {a : Option Addr} {n cap : Nat} {l : List Nat} (h : Nums k w a n cap l) : l.length = n := by
  have := h.1; rw [nums_length] at this; omega
theorem Nums.bound {k : IntKind} {w : World} {a : Option Addr} {n cap : Nat} {l : List Nat} (h : Nums k w a n cap l) : n ≤ cap ∧ cap ≤ 9223372036854775807 := by
  have := h.2.2.1; unfold maxLen at this; exact ⟨h.2.1, by omega⟩
/-- an element is a cell -/
theorem Nums.at {k : IntKind} {w : World} {a : Option Addr} {n cap : Nat} {l : List Nat} (h : Nums k w a n cap l) {j : Nat} (hj : j < l.length) :
    ∃ b off, a = some ⟨b, off, none⟩ ∧ w.cell? ⟨b, off + j, none⟩ = some (.int k ((l[j] : Nat) : Int)) := h.2.2.2.2 j _ (nums_get hj)
theorem Nums.take {k : IntKind} {w : World} {a : Option Addr} {n cap : Nat} {l : List Nat} (h : Nums k w a n cap l) {m : Nat} (hm : m ≤ n) : Nums k w a m cap (l.take m) := by
  have hl := h.len
  obtain ⟨h1, h2, h3, h4, h5⟩ := h
  refine ⟨by rw [nums_length, List.length_take]; omega, by omega, h3, h4, fun j u hj => ?_⟩
  refine h5 j u ?_
  have : nums k (l.take m) = (nums k l).take m := by simp [nums, List.map_take]
  rw [this, List.getElem?_take] at hj
  split at hj
  · exact hj
  · simp at hj
theorem Nums.nil (k : IntKind) (w : World) : Nums k w none 0 0 [] := ⟨rfl, Nat.le_refl _, Nat.zero_le _, fun _ => rfl, fun j u h => by simp [nums] at h⟩

theorem Row.owned {w : World} {base : Nat} {e : TypeId} {size : Nat} {a : Option Addr} {n cap m : Nat} {xs : List Value}
    (h : w.ownsRow base e size (.slice a n cap) m xs) : n = m ∧ Row w size a n cap xs := by
  have hc := fun g hg => World.ownsRow.cells h (g := g) hg
  obtain ⟨h1, h2⟩ := h
  rcases h2 with ⟨hv, h0⟩ | ⟨g, c, cur, hv, _, hg, h3, h4, h5, h6⟩
  · cases hv
    subst h0
    have : xs = [] := by simpa using h1
    subst this
    exact ⟨rfl, by simp, Nat.le_refl _, Nat.zero_le _, fun _ => rfl, fun j u h => by simp at h⟩
  · cases hv
    refine ⟨rfl, h1, h3, h4, fun h => by simp at h, fun j u hj => ⟨g, 0, rfl, ?_⟩⟩
    have := hc g rfl j u hj
    have ea : (⟨g, 0, none⟩ : Addr).add j = ⟨g, 0 + j, none⟩ := by unfold Addr.add; split <;> simp_all
    rw [ea] at this
    exact this

theorem Row.cell {w : World} {size : Nat} {b off n cap : Nat} {xs : List Value} (h : Row w size (some ⟨b, off, none⟩) n cap xs) {j : Nat} {u : Value} (hj : xs[j]? = some u) :
    w.cell? ⟨b, off + j, none⟩ = some u := by
  obtain ⟨b', off', he, hc⟩ := h.2.2.2.2 j u hj
  cases he
  exact hc
theorem Row.one {w : World} {g : Nat} {u : Value} (h : w.cell? ⟨g, 0, none⟩ = some u) : Row w 1 (some ⟨g, 0, none⟩) 1 1 [u] := by
  refine ⟨rfl, Nat.le_refl _, by decide, fun h => by simp at h, fun j v hj => ⟨g, 0, rfl, ?_⟩⟩
  match j, hj with
  | 0, hj => simp at hj; subst hj; exact h
  | j + 1, hj => simp at hj

/-- the types of a slice: its own, its element's; a zero element, in cells and bytes -/
structure El (P : Program) (t e : TypeId) (z : Value) (size bytes : Nat) : Prop where
  ht : P.underlying t = some (.slice e)
  hi : (P.info? e).map (fun i => (i.zero, i.size, i.bytes)) = some (some z, size, bytes)
  hz : z.cells.size = size
  h0 : 0 < size

theorem nums_oneCell (k : IntKind) (l : List Nat) : ∀ u ∈ nums k l, u.oneCell' = true := by
  intro u hu
  simp only [nums, List.mem_map] at hu
  obtain ⟨x, _, rfl⟩ := hu
  rfl

/-- append to a slice of one's own, of whatever row -/
theorem wpList_app {P : Program} {t e : TypeId} {z : Value} {size bytes : Nat} (E : El P t e z size bytes) {w : World} {ops : Array Oper} {rest : List Oper} {o : Oper} {a : Act} {Q : Exit → Act → World → Prop}
    (hg : o.guard = none) (s x : Operand) (hop : o.op = .call { callee := .builtin .append, args := #[s, x], argTypes := #[t, t] })
    (base : Nat) (v : Value) (n : Nat) (xs : List Value) (hs : a.eval s = v) (hown : w.ownsRow base e size v n xs)
    (ao : Option Addr) (m c : Nat) (ys : List Value) (hx : a.eval x = .slice ao m c) (hy : Row w size ao m c ys) (h1 : ∀ u ∈ ys, u.oneCell' = true)
    (h63 : n + m ≤ maxLen) (hbytes : (n + m) * bytes ≤ 140737488355328) (hbase : base ≤ w.heap.size)
    (h : ∀ v' w', w'.ownsRow base e size v' (n + m) (xs ++ ys) → Below base w w' → w.grownBy w' v.ownBlock → wpList P ops Q rest (a.put o.dst v') w') : wpList P ops Q (o :: rest) a w := by
  obtain ⟨i, hi, hz0, hz1, hz2⟩ := info_parts E.hi
  cases ao with
  | none =>
    have hc := hy.2.2.2.1 rfl
    have hm : m = 0 := by have := hy.2.1; omega
    subst hc; subst hm
    have hys : ys = [] := List.eq_nil_of_length_eq_zero (by have := hy.1; simpa using this)
    subst hys
    refine wpList_append_own_none hg s x t hop base e i size E.ht hi v n xs hs hown hx ?_
    exact h v w (by simpa using hown) (Below.refl _ _) (World.grownBy.refl _ _)
  | some ad =>
    refine wpList_append_own w hg s x t hop base e i z size bytes E.ht hi hz0 hz1 hz2 E.hz E.h0 v n xs hs hown ad m c ys hx hy.1 ?_ h1 h63 hbytes hbase (fun v' w' h2 h3 _ => h v' w' h2 ((Below.refl _ _).grown h3 hbase fun b hb => (hown.lt b hb).1) h3)
    intro j u hj
    obtain ⟨b, off, ha, hc⟩ := hy.2.2.2.2 j u hj
    cases ha
    rw [Addr.add_lit]
    exact hc

/-- append of one element of one cell, laid in a new block -/
theorem wpList_push {P : Program} {t e : TypeId} {z : Value} {bytes : Nat} (E : El P t e z 1 bytes) {w : World} {ops : Array Oper} {rest : List Oper} {o : Oper} {a : Act} {Q : Exit → Act → World → Prop}
    (hg : o.guard = none) (s x : Operand) (hop : o.op = .call { callee := .builtin .append, args := #[s, x], argTypes := #[t, t] })
    (base : Nat) (v : Value) (n : Nat) (xs : List Value) (hs : a.eval s = v) (hown : w.ownsRow base e 1 v n xs)
    (g : Nat) (u : Value) (hx : a.eval x = .slice (some ⟨g, 0, none⟩) 1 1) (hc : w.cell? ⟨g, 0, none⟩ = some u) (h1 : u.oneCell' = true)
    (h63 : n + 1 ≤ maxLen) (hbytes : (n + 1) * bytes ≤ 140737488355328) (hbase : base ≤ w.heap.size)
    (h : ∀ v' w', w'.ownsRow base e 1 v' (n + 1) (xs ++ [u]) → Below base w w' → w.grownBy w' v.ownBlock → wpList P ops Q rest (a.put o.dst v') w') : wpList P ops Q (o :: rest) a w :=
  wpList_app E hg s x hop base v n xs hs hown _ 1 1 [u] hx (Row.one hc) (fun x hx => by simp at hx; subst hx; exact h1) h63 hbytes hbase h

/-- make([]T, 0, n) -/
theorem wpList_mk0 {P : Program} {t e : TypeId} {z : Value} {size bytes : Nat} (E : El P t e z size bytes) {w : World} {ops : Array Oper} {rest : List Oper} {o : Oper} {a : Act} {Q : Exit → Act → World → Prop}
    (hg : o.guard = none) (l c : Operand) (hop : o.op = Op.makeSlice t l c)
    (base : Nat) (kl kc : IntKind) (C : Int) (n : Nat) (hl : a.eval l = .int kl 0) (hc : a.eval c = .int kc C) (hC : C = (n : Int)) (b2 : bytes * n ≤ 281474976710656) (b3 : n ≤ maxLen) (b4 : base ≤ w.heap.size)
    (hK : ∀ w', w'.ownsRow base e size (.slice (some ⟨w.heap.size, 0, none⟩) 0 n) 0 [] → w.grownBy w' none → wpList P ops Q rest (a.put o.dst (.slice (some ⟨w.heap.size, 0, none⟩) 0 n)) w') :
    wpList P ops Q (o :: rest) a w := by
  obtain ⟨i, hi, hz0, hz1, hz2⟩ := info_parts E.hi
  exact wpList_make_own w hg l c t hop base e i z size E.ht hi hz0 hz1 kl kc C n hl hc hC (by rw [hz2]; exact b2) b3 b4 hK

/-- make([]T, n) -/
theorem wpList_mkn {P : Program} {t e : TypeId} {z : Value} {size bytes : Nat} (E : El P t e z size bytes) {w : World} {ops : Array Oper} {rest : List Oper} {o : Oper} {a : Act} {Q : Exit → Act → World → Prop}
    (hg : o.guard = none) (l c : Operand) (hop : o.op = Op.makeSlice t l c)
    (base : Nat) (kl kc : IntKind) (L C : Int) (n : Nat) (hl : a.eval l = .int kl L) (hc : a.eval c = .int kc C) (hL : L = (n : Int)) (hC : C = (n : Int)) (b2 : bytes * n ≤ 281474976710656) (b3 : n ≤ maxLen) (b4 : base ≤ w.heap.size)
    (hK : ∀ w', w'.ownsRow base e size (.slice (some ⟨w.heap.size, 0, none⟩) n n) n (madeCells z.cells (n * size)).toList → w.grownBy w' none → wpList P ops Q rest (a.put o.dst (.slice (some ⟨w.heap.size, 0, none⟩) n n)) w') :
    wpList P ops Q (o :: rest) a w := by
  obtain ⟨i, hi, hz0, hz1, hz2⟩ := info_parts E.hi
  exact wpList_make_full w hg l c t hop base e i z size E.ht hi hz0 hz1 kl kc L C n hl hc hL hC (by rw [hz2]; exact b2) b3 b4 hK

/-- what is owned reads on, behind what wrote elsewhere -/
theorem ownsRow_below {w w' : World} {base : Nat} {e : TypeId} {size : Nat} {v : Value} {n : Nat} {xs : List Value} (h : w.ownsRow base e size v n xs) (hb : Below w.heap.size w w') :
    w'.ownsRow base e size v n xs := h.kept (row := none) ⟨hb.os, hb.tape, hb.output, hb.size, fun k hk _ => hb.block k hk⟩ (by cases v.ownBlock <;> simp)
/-- what one owns from a base on one owns from a lower one on -/
theorem ownsRow_base {w : World} {base base' : Nat} {e : TypeId} {size : Nat} {v : Value} {n : Nat} {xs : List Value} (h : w.ownsRow base e size v n xs) (hb : base' ≤ base) :
    w.ownsRow base' e size v n xs := by
  obtain ⟨h1, h2⟩ := h
  refine ⟨h1, ?_⟩
  rcases h2 with h2 | ⟨g, cap, cur, hv, hg, r⟩
  · exact .inl h2
  · exact .inr ⟨g, cap, cur, hv, Nat.le_trans hb hg, r⟩
/-- a slice of one's own is a slice -/
theorem ownsRow_slice {w : World} {base : Nat} {e : TypeId} {size : Nat} {v : Value} {n : Nat} {xs : List Value} (h : w.ownsRow base e size v n xs) :
    ∃ a cap, v = .slice a n cap ∧ Row w size a n cap xs := by
  have h' := h
  obtain ⟨_, h2⟩ := h'
  rcases h2 with ⟨rfl, rfl⟩ | ⟨g, cap, cur, rfl, _⟩
  · exact ⟨none, 0, rfl, (Row.owned h).2⟩
  · exact ⟨_, cap, rfl, (Row.owned h).2⟩
/-- where there is an element there is a block -/
theorem own_some {w : World} {base : Nat} {e : TypeId} {size : Nat} {a : Option Addr} {n cap : Nat} {xs : List Value} (h : w.ownsRow base e size (.slice a n cap) n xs) (hn : 0 < n) :
    ∃ g, a = some ⟨g, 0, none⟩ := by
  rcases h.2 with ⟨_, h0⟩ | ⟨g, c, cur, hv, _⟩
  · omega
  · cases hv; exact ⟨g, rfl⟩
/-- a cell that a call has kept -/
theorem keep {B : Nat} {w w' : World} {b o : Nat} {v : Value} (hb : Below B w w') (h : w.cell? ⟨b, o, none⟩ = some v) (hlt : b < B) : w'.cell? ⟨b, o, none⟩ = some v := by
  rw [hb.cell (p := ⟨b, o, none⟩) hlt]; exact h
theorem kept {w w' : World} {b o : Nat} {v : Value} (hb : Below w.heap.size w w') (h : w.cell? ⟨b, o, none⟩ = some v) : w'.cell? ⟨b, o, none⟩ = some v :=
  keep hb h (World.block_lt_of_cell? w _ h)
theorem new2 (w : World) (x y : Value) (t : TypeId) : (w.alloc (.cells #[x, y] t)).cell? ⟨w.heap.size, 0, none⟩ = some x ∧ (w.alloc (.cells #[x, y] t)).cell? ⟨w.heap.size, 1, none⟩ = some y := by
  constructor <;> simp
theorem below_put {B : Nat} {a w : World} (h : Below B a w) (hB : B ≤ w.heap.size) {w' : World} (o : Obj) (k : Below (w.alloc o).heap.size (w.alloc o) w') : Below B a w' :=
  (h.alloc hB o).trans (k.mono (by simp; omega))
theorem below_growns {B : Nat} {w w' : World} (h : w.grownBy w' none) (hB : B ≤ w.heap.size) : Below B w w' :=
  (Below.refl B w).grown h hB (fun k h => by cases h)

theorem Row.fresh3 (w : World) (a b c : Value) (e : TypeId) : Row (w.alloc (.cells #[a, b, c] e)) 3 (some ⟨w.heap.size, 0, none⟩) 1 1 [a, b, c] := by
  refine ⟨rfl, Nat.le_refl _, by decide, fun h => by simp at h, fun j u hj => ⟨w.heap.size, 0, rfl, ?_⟩⟩
  rw [World.cell?_alloc_mark, Nat.zero_add]
  simpa using hj
theorem oneCell3 {a b c : Value} (ha : a.oneCell' = true) (hb : b.oneCell' = true) (hc : c.oneCell' = true) : ∀ u ∈ [a, b, c], u.oneCell' = true := by
  intro u hu
  simp at hu
  rcases hu with rfl | rfl | rfl <;> assumption
theorem Row.fresh2 (w : World) (a b : Value) (e : TypeId) : Row (w.alloc (.cells #[a, b] e)) 2 (some ⟨w.heap.size, 0, none⟩) 1 1 [a, b] := by
  refine ⟨rfl, Nat.le_refl _, by decide, fun h => by simp at h, fun j u hj => ⟨w.heap.size, 0, rfl, ?_⟩⟩
  rw [World.cell?_alloc_mark, Nat.zero_add]
  simpa using hj
theorem oneCell2 {a b : Value} (ha : a.oneCell' = true) (hb : b.oneCell' = true) : ∀ u ∈ [a, b], u.oneCell' = true := by
  intro u hu
  simp at hu
  rcases hu with rfl | rfl <;> assumption

/-- a row of numbers that one owns, at the head of block g -/
abbrev OwnN (w : World) (base : Nat) (e : TypeId) (k : IntKind) (g n cap : Nat) (l : List Nat) : Prop :=
  w.ownsRow base e 1 (.slice (some ⟨g, 0, none⟩) n cap) n (nums k l)
theorem OwnN.len {w : World} {base : Nat} {e : TypeId} {k : IntKind} {g n cap : Nat} {l : List Nat} (h : OwnN w base e k g n cap l) : l.length = n := by
  have := h.1; rw [nums_length] at this; omega
theorem OwnN.cell {w : World} {base : Nat} {e : TypeId} {k : IntKind} {g n cap : Nat} {l : List Nat} (h : OwnN w base e k g n cap l) {j : Nat} (hj : j < l.length) :
    w.cell? ⟨g, j, none⟩ = some (.int k ((l[j] : Nat) : Int)) := by
  have := h.len
  rw [World.ownsRow.cellAt h j (by omega), nums_get hj]
theorem OwnN.set {w : World} {base : Nat} {e : TypeId} {k : IntKind} {g n cap : Nat} {l : List Nat} (h : OwnN w base e k g n cap l) (j x : Nat) :
    OwnN (w.setCell ⟨g, j, none⟩ (.int k (x : Int))) base e k g n cap (l.set j x) := by
  have := (World.ownsRow.stored h j (.int k (x : Int))).1
  have e2 : nums k (l.set j x) = (nums k l).set j (.int k (x : Int)) := by simp [nums, List.map_set]
  show World.ownsRow _ _ _ _ _ _ _
  rw [e2]; exact this
theorem mod256 (x : Nat) : (((x : Int) + 1) % 256) = (((x + 1) % 256 : Nat) : Int) := by omega
theorem OwnN.nums {w : World} {base : Nat} {e : TypeId} {k : IntKind} {g n cap : Nat} {l : List Nat} (h : OwnN w base e k g n cap l) :
    Nums k w (some ⟨g, 0, none⟩) n cap l := (Row.owned h).2
theorem OwnN.lt {w : World} {base : Nat} {e : TypeId} {k : IntKind} {g n cap : Nat} {l : List Nat} (h : OwnN w base e k g n cap l) : base ≤ g ∧ g < w.heap.size :=
  World.ownsRow.lt h g rfl

/-- a block that has just been laid, read whole -/
theorem Row.fresh (w : World) (cs : Array Value) (e : TypeId) (fr : Nat × Nat) (n : Nat) (hn : n = cs.size) (hm : n ≤ maxLen) :
    Row (w.alloc (.cells cs e fr)) 1 (some ⟨w.heap.size, 0, none⟩) n n cs.toList := by
  subst hn
  refine ⟨by simp, Nat.le_refl _, hm, fun h => by simp at h, fun j u hj => ⟨w.heap.size, 0, rfl, ?_⟩⟩
  rw [World.cell?_alloc_mark, Nat.zero_add]
  simpa using hj

/-- a slice of integers that came in: nil, or a row of 'cap' cells, the numbers zs -/
def IsRow (k : IntKind) (w : World) (a : Option Addr) (len cap : Nat) (zs : List Int) : Prop :=
  (a = none ∧ len = 0 ∧ cap = 0 ∧ zs = []) ∨
  ∃ x, a = some x ∧ len ≤ cap ∧ cap ≤ maxLen ∧ zs.length = cap ∧ (∀ i, i < zs.length → w.cell? (x.add i) = some (.int k (zs.getD i 0))) ∧ ∀ n ∈ zs, (Lit.int k n).wf = true

theorem nat_of {k : IntKind} (hk : k.signed = false) {n : Int} (h : (Lit.int k n).wf = true) : 0 ≤ n ∧ n.toNat < 2 ^ k.bits := by
  simp only [Lit.wf, IntKind.min, IntKind.max, hk, Bool.and_eq_true, decide_eq_true_eq] at h
  cases k <;> simp [IntKind.signed] at hk <;> simp [IntKind.bits] at h ⊢ <;> omega

theorem int_of {n : Int} (h : (Lit.int .i64 n).wf = true) : -9223372036854775808 ≤ n ∧ n ≤ 9223372036854775807 := by
  simp [Lit.wf, IntKind.min, IntKind.max, IntKind.signed, IntKind.bits] at h
  exact h

/-- as natural numbers, where the kind has no sign -/
theorem nums_of {k : IntKind} (hk : k.signed = false) {w : World} {a : Option Addr} {len cap : Nat} {zs : List Int} (h : IsRow k w a len cap zs) :
    ∃ l : List Nat, Nums k w a len cap l ∧ ∀ x ∈ l, x < 2 ^ k.bits := by
  rcases h with ⟨rfl, rfl, rfl, rfl⟩ | ⟨x, rfl, hl, hm, hz, hc, hw⟩
  · exact ⟨[], Nums.nil k w, by simp⟩
  · refine ⟨(zs.take len).map Int.toNat, ⟨?_, hl, hm, fun h => by simp at h, fun j u hj => ?_⟩, ?_⟩
    · simp [nums]; omega
    · have hjl : j < len := by
        have := (List.getElem?_eq_some_iff.1 hj).1
        simp [nums] at this; omega
      have h1 := hc j (by omega)
      obtain ⟨b, off, spot⟩ := x
      have hs : spot = none := by
        have h0 := hc 0 (by omega)
        simpa [Addr.add] using World.cell?_spot h0
      subst hs
      refine ⟨b, off, rfl, ?_⟩
      rw [Addr.add_lit] at h1
      rw [h1]
      have hjz : j < zs.length := by omega
      have hw' := nat_of hk (hw _ (List.getElem_mem hjz))
      have hu : u = .int k (zs[j]) := by
        have h2 : (nums k ((zs.take len).map Int.toNat))[j]? = some (.int k ((zs[j].toNat : Nat) : Int)) := by
          simp [nums, hjl, hjz]
        rw [h2] at hj
        rw [← Option.some.inj hj, Int.toNat_of_nonneg hw'.1]
      rw [hu, List.getD_eq_getElem?_getD, List.getElem?_eq_getElem hjz]
      rfl
    · intro y hy
      simp only [List.mem_map] at hy
      obtain ⟨z, hz', rfl⟩ := hy
      exact (nat_of hk (hw z (List.mem_of_mem_take hz'))).2
end Go.Proofs.YtagbnacffiagcaaDoor.Mem

namespace Go.Proofs.YtagbnacffiagcaaDoor.RefW
open Go Go.RowKit Go.Proofs.YtagbnacffiagcaaDoor.Mem
set_option linter.unusedVariables false
set_option maxRecDepth 100000

theorem elU8 : El Tryd.prog 28 5 (.int .u8 0) 1 1 := ⟨Tryd.underlying28, by kernel_rfl, rfl, by decide⟩

theorem take_snoc (l : List Nat) (k : Nat) (h : k < l.length) : l.take (k + 1) = l.take k ++ [l[k]] := by
  rw [List.take_succ_eq_append_getElem h]
set_option maxHeartbeats 800000 in
/-- a copy of bytes -/
theorem bytes_w (a : Option Addr) (n cap : Nat) (l : List Nat) (w : World) (hr : Nums .u8 w a n cap l) (hn : n ≤ 140737488355328) :
    Calls Tryd.prog 96 #[.slice a n cap] w fun e w' => ∃ v, e = .returned v ∧ w'.ownsRow w.heap.size 5 1 v n (nums .u8 l) ∧ Below w.heap.size w w' := by
  have hbd := hr.bound
  obtain ⟨hb1, hb2⟩ := hbd
  have HL : Hid (l.length = n) := hr.len
  have HR : Hid (Nums .u8 w a n cap l) := hr
  clear hr
  go_enter Tryd.func96, Tryd.ntmps96
  go_wp2_with (at_make; refine wpList_mk0 elU8 rfl _ _ rfl w.heap.size _ _ _ n rfl rfl rfl (by omega) (by unfold maxLen; omega) (Nat.le_refl _) ?_; intro w0 hown0 hgrow0)
  have hb0 := below_growns hgrow0 (Nat.le_refl w.heap.size)
  go_loopw [3, 4] (fun v i wr => ∃ k : Nat, k ≤ n ∧ i = .int .i64 k ∧ wr.ownsRow w.heap.size 5 1 v k (nums .u8 (l.take k)) ∧ Below w.heap.size w wr) (fun _ i _ => n - (intOf i).toNat)
  case atStart => exact ⟨0, by omega, rfl, hown0, hb0⟩
  case round =>
    obtain ⟨k, hk, rfl, hown, hb⟩ := hrel
    by_cases hlt : k < n
    · have hkl : k < l.length := by rw [HL.out]; exact hlt
      obtain ⟨b, off, rfl, hc⟩ := (HR.out.below hb).at hkl
      have HS : Hid (nums .u8 (l.take (k + 1)) = nums .u8 (l.take k) ++ [.int .u8 ((l[k] : Nat) : Int)]) := nums_take_succ .u8 l k hkl
      have hz := hb.size
      generalize l[k] = c at hc HS
      clear HR hown0 hgrow0 hb0
      go_wp2_with (at_builtin; go_must (refine wpList_push elU8 rfl _ _ rfl w.heap.size u3 k _ rfl (hown.alloc _) wr.heap.size (.int .u8 (c : Int)) rfl (by simp) rfl (by unfold maxLen; omega) (by omega) (by simp; omega) ?_); intro v' w1 hown1 hb1 _)
      go_roundw
      case rel => exact ⟨k + 1, by omega, by go_num, by rw [HS.out]; exact hown1, (hb.alloc hz _).trans hb1⟩
      case measure => simp [intOf]; omega
    · obtain rfl : k = n := by omega
      have HE : Hid (l.take k = l) := List.take_of_length_le (by rw [HL.out]; exact Nat.le_refl _)
      rw [HE.out] at hown
      go_wp2
      go_ret
      exact ⟨_, rfl, hown, hb⟩


theorem made_nums (k : IntKind) (n : Nat) : (madeCells (Value.int k 0).cells (n * 1)).toList = nums k (List.replicate n 0) := by
  rw [Nat.mul_one]
  show (madeCells #[Value.int k 0] n).toList = _
  rw [toList_madeCells_one]
  simp [nums]


theorem same_of_take {l m : List Nat} {k : Nat} (hl : k = l.length) (hm : k = m.length) (h : l.take k = m.take k) : l = m := by
  rwa [List.take_of_length_le (by omega), List.take_of_length_le (by omega)] at h

set_option maxHeartbeats 1600000 in
/-- two lists of bytes held against one another -/
theorem same_w (a : Option Addr) (n cap : Nat) (l : List Nat) (b : Option Addr) (m cap' : Nat) (l' : List Nat) (w : World) (h0 : Nums .u8 w a n cap l) (h1 : Nums .u8 w b m cap' l') :
    Calls Tryd.prog 20 #[.slice a n cap, .slice b m cap'] w fun e w' => e = .returned (.bool (decide (l = l'))) ∧ Below w.heap.size w w' := by
  have hbd0 := h0.bound
  have hbd1 := h1.bound
  have HL0 := hid h0.len
  have HL1 := hid h1.len
  obtain ⟨c1, c2⟩ := hbd0
  obtain ⟨c3, c4⟩ := hbd1
  by_cases hn : n = m
  · subst hn
    go_enter Tryd.func20, Tryd.ntmps20
    go_wp2
    go_loopw [5] (fun i wr => ∃ k : Nat, k ≤ n ∧ i = .int .i64 k ∧ l.take k = l'.take k ∧ Below w.heap.size w wr) (fun i _ => n - (intOf i).toNat)
    case atStart => exact ⟨0, by omega, rfl, by simp, Below.refl _ _⟩
    case round =>
      obtain ⟨k, hk, rfl, hT, hb⟩ := hrel
      have HT := hid hT
      clear hT
      by_cases hlt : k < n
      · have hkl : k < l.length := by rw [HL0.out]; exact hlt
        have hkl' : k < l'.length := by rw [HL1.out]; exact hlt
        obtain ⟨b0, o0, rfl, hc0⟩ := (h0.below hb).at hkl
        obtain ⟨b1, o1, rfl, hc1⟩ := (h1.below hb).at hkl'
        have HS0 := hid (List.take_succ_eq_append_getElem hkl)
        have HS1 := hid (List.take_succ_eq_append_getElem hkl')
        have HE0 := hid (List.getElem?_eq_getElem hkl)
        have HE1 := hid (List.getElem?_eq_getElem hkl')
        generalize l[k] = x at hc0 HS0 HE0
        generalize l'[k] = y at hc1 HS1 HE1
        clear h0 h1
        by_cases hxy : x = y
        · subst hxy
          go_wp2
          go_quiet (fail)
          go_wp2
          go_roundw
          case rel => exact ⟨k + 1, by omega, by go_num, by rw [HS0.out, HS1.out, HT.out], below_drewN hb _⟩
          case measure => simp [intOf]; omega
        · have hne : ((x : Int) == (y : Int)) = false := by simp; omega
          go_wp2
          go_quiet (fail)
          go_wp2
          go_ret
          refine ⟨ret_bool ?_, below_drewN hb _⟩
          simp only [decide_eq_false_iff_not, Bool.false_eq, decide_eq_false_iff_not]
          intro he
          have h2 := HE0.out
          rw [he, HE1.out] at h2
          exact hxy (Option.some.inj h2).symm
      · obtain rfl : k = n := by omega
        have he : l = l' := same_of_take HL0.out.symm HL1.out.symm HT.out
        go_wp2
        go_ret
        exact ⟨ret_bool (by simp [he]), hb⟩
  · have hne : ((n : Int) != (m : Int)) = true := by rw [bne_iff_ne]; omega
    go_enter Tryd.func20, Tryd.ntmps20
    go_wp2
    go_ret
    exact ⟨ret_bool (by simp; intro h; exact hn (by rw [← HL0.out, ← HL1.out, h])), Below.refl _ _⟩

set_option maxHeartbeats 800000 in
/-- a copy of bytes by the library's own Clone -/
theorem clone_w (a : Option Addr) (n cap : Nat) (l : List Nat) (w : World) (hr : Nums .u8 w a n cap l) (hn : n ≤ 140737488355328) :
    Calls Tryd.prog 93 #[.slice a n cap] w fun e w' => ∃ v, e = .returned v ∧ w'.ownsRow w.heap.size 5 1 v n (nums .u8 l) ∧ Below w.heap.size w w' := by
  have ke := fun (w : World) (a : Option Addr) (n c : Nat) => Lib.run_eql_slice_nil (P := Tryd.prog) w 28 5 a n c 0 0 Tryd.underlying28
  cases a with
  | none =>
    have hc := hr.2.2.2.1 rfl
    have hn0 : n = 0 := by have := hr.2.1; omega
    subst hc; subst hn0
    have hl : l = [] := List.eq_nil_of_length_eq_zero hr.len
    subst hl
    go_enter Tryd.func93, Tryd.ntmps93
    go_wp2
    go_ret
    exact ⟨_, rfl, World.ownsRow_nil _ _ _ _, Below.refl _ _⟩
  | some ad =>
    go_enter Tryd.func93, Tryd.ntmps93
    go_wp2_with (at_builtin; go_must (refine wpList_app elU8 rfl _ _ rfl w.heap.size (.slice (some ⟨w.heap.size, 0, none⟩) 0 0) 0 [] rfl (World.ownsRow_made w #[] 0 (Nat.le_refl _) (by decide) rfl) (some ad) n cap (nums .u8 l) rfl (Row.below hr ((Below.refl _ _).alloc (Nat.le_refl _) _)) (nums_oneCell _ _) (by unfold maxLen; omega) (by omega) (by simp) ?_); intro v1 w1 own1 hb1 _)
    go_ret
    rw [Nat.zero_add, List.nil_append] at own1
    exact ⟨_, rfl, own1, ((Below.refl _ _).alloc (Nat.le_refl _) _).trans hb1⟩
end Go.Proofs.YtagbnacffiagcaaDoor.RefW

namespace Go.Proofs.YtagbnacffiagcaaDoor.CrcW
open Go Go.RowKit Go.Proofs.YtagbnacffiagcaaDoor.Mem Go.Proofs.YtagbnacffiagcaaDoor.RefW
set_option linter.unusedVariables false
set_option maxRecDepth 100000

theorem ret_u32 {a b : Int} (h : a = b) : Ending.returned (.int .u32 a) = .returned (.int .u32 b) := by rw [h]

set_option maxHeartbeats 400000 in
theorem step_w (n : Nat) (hn : n < Crc.W) (w : World) :
    Calls Tryd.prog 109 #[.int .u32 n] w fun e w' => e = .returned (.int .u32 (Crc.step n)) ∧ w = w' := by
  go_enter Tryd.func109, Tryd.ntmps109
  go_wp2
  go_loop [0, 4] (fun x i => ∃ k : Nat, k ≤ 8 ∧ i = .int .i64 k ∧ x = .int .u32 (Crc.bits k n)) (fun _ i => 8 - (intOf i).toNat)
  case atStart => exact ⟨0, by omega, rfl, rfl⟩
  case round =>
    obtain ⟨k, hk, rfl, rfl⟩ := hrel
    have hm : Crc.bits k n < 4294967296 := Crc.bits_lt k hn
    have hs : Hid (Crc.bits (k + 1) n = Crc.bit (Crc.bits k n)) := Crc.bits_snoc k n
    generalize he : Crc.bits k n = m at hm hs ⊢
    have HE : Hid (Crc.bits k n = m) := he
    clear he
    by_cases hlt : k < 8
    · go_wp2
      all_goals
        go_round
        case rel =>
          refine ⟨k + 1, by omega, by go_num, ?_⟩
          rw [hs.out]
          have hand : bits .and .u32 (m : Int) 1 = ((m % 2 : Nat) : Int) := by
            have := u32_and_nat m 1 hm (by omega)
            rw [Nat.and_one_is_mod] at this
            exact this
          rename_i hb
          rw [hand] at hb
          simp at hb
          unfold Crc.bit
          first
            | (rw [if_pos (by omega)]
               have := u32_xor_nat (m / 2) 2197175160 (by omega) (by omega)
               rw [show ((m : Int) / 2) = ((m / 2 : Nat) : Int) by omega]
               exact congrArg _ this)
            | (rw [if_neg (by omega)]; go_num)
        case measure => simp [intOf]; omega
    · obtain rfl : k = 8 := by omega
      go_wp2
      go_ret
      exact ⟨ret_u32 (by rw [Crc.step_def, HE.out]), rfl⟩

theorem not_u32 (m : Nat) (hm : m < 4294967296) : bits .xor .u32 (IntKind.max .u32) (m : Int) = ((m ^^^ 4294967295 : Nat) : Int) := by
  have := u32_xor_nat 4294967295 m (by omega) hm
  rw [Nat.xor_comm m]
  exact this
theorem Bytes_take {l : List Nat} (h : Crc.Bytes l) (k : Nat) : Crc.Bytes (l.take k) := fun x hx => h x (List.mem_of_mem_take hx)

set_option maxHeartbeats 400000 in
theorem sum_w (a : Option Addr) (n cap : Nat) (l : List Nat) (w : World) (hr : Nums .u8 w a n cap l) (hb : Crc.Bytes l) :
    Calls Tryd.prog 73 #[.slice a n cap] w fun e w' => e = .returned (.int .u32 (Crc.sum l)) ∧ w = w' := by
  have hbd := hr.bound
  obtain ⟨hb1, hb2⟩ := hbd
  have HL : Hid (l.length = n) := hr.len
  go_enter Tryd.func73, Tryd.ntmps73
  go_wp2
  go_loop [3, 8] (fun s i => ∃ k : Nat, k ≤ n ∧ i = .int .i64 k ∧ s = .int .u32 (Crc.run (Crc.W - 1) (l.take k))) (fun _ i => n - (intOf i).toNat)
  case atStart => exact ⟨0, by omega, rfl, congrArg (Value.int .u32) (show (4294967295 : Int) = ((Crc.W - 1 : Nat) : Int) by decide)⟩
  case round =>
    obtain ⟨k, hk, rfl, rfl⟩ := hrel
    have hm : Crc.run (Crc.W - 1) (l.take k) < 4294967296 := Crc.run_lt _ Crc.top_lt (Bytes_take hb k)
    by_cases hlt : k < n
    · have hkl : k < l.length := by rw [HL.out]; exact hlt
      obtain ⟨b, off, rfl, hc⟩ := hr.at hkl
      have hcb : l[k] < 256 := hb _ (List.getElem_mem _)
      have HS : Hid (Crc.run (Crc.W - 1) (l.take (k + 1)) = Crc.step (Crc.run (Crc.W - 1) (l.take k) ^^^ l[k])) := by
        show _ = _
        rw [take_snoc l k hkl, Crc.run_snoc]
      generalize l[k] = c at hc hcb HS
      generalize Crc.run (Crc.W - 1) (l.take k) = m at hm HS ⊢
      have hx := u32_xor_nat m c hm (by omega)
      have hxl : m ^^^ c < Crc.W := Crc.xor_lt hm (Crc.byte_lt hcb)
      clear hr
      go_wp2_with (go_at_call 109; refine (step_w _ hxl _).mono ?_; rintro e w' ⟨rfl, rfl⟩)
      go_round
      case rel => exact ⟨k + 1, by omega, by go_num, by rw [HS.out]⟩
      case measure => simp [intOf]; omega
    · obtain rfl : k = n := by omega
      have HE : Hid (l.take k = l) := List.take_of_length_le (by rw [HL.out]; exact Nat.le_refl _)
      rw [HE.out] at hm ⊢
      generalize hs : Crc.run (Crc.W - 1) l = m at hm ⊢
      have HS : Hid (Crc.sum l = m ^^^ 4294967295) := by show _ = _; unfold Crc.sum; rw [hs]; rfl
      clear hs
      go_wp2
      go_ret
      exact ⟨ret_u32 (by rw [HS.out]; exact not_u32 m hm), rfl⟩

theorem xor_byteOf (x t k : Nat) (hx : x < 256) : bits .xor .u8 (x : Int) ((t : Int) / 2 ^ (8 * k) % 256) = ((x ^^^ Crc.byteOf t k : Nat) : Int) := by
  have e : ((t : Int) / 2 ^ (8 * k) % 256) = ((Crc.byteOf t k : Nat) : Int) := by
    unfold Crc.byteOf
    rw [Nat.shiftRight_eq_div_pow]
    simp
  rw [e]
  exact u8_xor_nat x _ hx (Crc.byteOf_lt t k)
theorem turn1_in {m : List Nat} {p t k x : Nat} (hpk : p + k < m.length) (hx : m[p + k] = x) : Crc.turn1 m (p : Int) t k = m.set (p + k) (x ^^^ Crc.byteOf t k) := by
  unfold Crc.turn1
  rw [if_pos (by omega)]
  simp only [Int.toNat_natCast]
  rw [List.getD_eq_getElem?_getD, List.getElem?_eq_getElem hpk, hx]
  rfl
theorem turn1_out {m : List Nat} {at_ : Int} {t k : Nat} (h : ¬ (0 ≤ at_ ∧ at_ < (m.length : Int) - k)) : Crc.turn1 m at_ t k = m := by
  unfold Crc.turn1; rw [if_neg h]

set_option maxHeartbeats 1600000 in
/-- some of the bytes turned -/
theorem turned_w (a : Option Addr) (n cap : Nat) (l : List Nat) (at_ : Int) (t : Nat) (w : World) (hr : Nums .u8 w a n cap l) (hbt : Crc.Bytes l) (hn : n ≤ 140737488355328)
    (hlo : -9223372036854775808 ≤ at_) (hhi : at_ ≤ 9223372036854775807) (ht : t < 4294967296) :
    Calls Tryd.prog 78 #[.slice a n cap, .int .i64 at_, .int .u32 t] w fun e w' => ∃ v, e = .returned v ∧ w'.ownsRow w.heap.size 5 1 v n (nums .u8 (Crc.turned l at_ t)) ∧ Below w.heap.size w w' := by
  have hbd := hr.bound
  obtain ⟨hb1, hb2⟩ := hbd
  have HL : Hid (l.length = n) := hr.len
  go_enter Tryd.func78, Tryd.ntmps78
  go_wp2_with (at_builtin; go_must (refine wpList_app elU8 rfl _ _ rfl w.heap.size (.slice none 0 0) 0 [] rfl (World.ownsRow_nil _ _ _ _) a n cap (nums .u8 l) rfl hr (nums_oneCell _ _) (by unfold maxLen; omega) (by omega) (Nat.le_refl _) ?_); intro v1 w1 own1 hb1 _)
  rw [Nat.zero_add, List.nil_append] at own1
  obtain ⟨a1, c1, rfl, _⟩ := ownsRow_slice own1
  clear hr
  have z1 := hb1.size
  have hcap : n ≤ c1 ∧ c1 ≤ 9223372036854775807 := by
    have h := (Row.owned own1).2; have := h.2.2.1; unfold maxLen at this; exact ⟨h.2.1, by omega⟩
  go_loopw [11] (fun i wr => ∃ k : Nat, k ≤ 4 ∧ i = .int .i64 k ∧ wr.ownsRow w.heap.size 5 1 (.slice a1 n c1) n (nums .u8 (Crc.turnK l at_ t k)) ∧ Below w.heap.size w wr) (fun i _ => 4 - (intOf i).toNat)
  case atStart => exact ⟨0, by omega, rfl, own1, hb1⟩
  case round =>
    obtain ⟨k, hk, rfl, hown, hb⟩ := hrel
    have HT := hid (show Crc.turnK l at_ t (k + 1) = Crc.turn1 (Crc.turnK l at_ t k) at_ t k from rfl)
    have hbt' := Crc.turnK_bytes hbt at_ t k
    have HL' : Hid ((Crc.turnK l at_ t k).length = n) := hid (by rw [Crc.turnK_length]; exact HL.out)
    generalize he : Crc.turnK l at_ t k = m at hown HT hbt' HL'
    have HE := hid he
    clear he
    clear own1
    by_cases hlt : k < 4
    · by_cases hin : 0 ≤ at_ ∧ at_ < (n : Int) - k
      · obtain ⟨h0, h1⟩ := hin
        obtain ⟨p, rfl⟩ := Int.eq_ofNat_of_zero_le h0
        obtain ⟨g, rfl⟩ := own_some hown (by omega)
        have hpk : p + k < m.length := by rw [HL'.out]; omega
        have hc := OwnN.cell hown hpk
        have hf := World.ownsRow.frozenAt hown (p + k)
        have hcb : m[p + k] < 256 := hbt' _ (List.getElem_mem hpk)
        generalize hx : m[p + k] = x at hc hcb
        have HX := hid hx
        clear hx
        have HO := hid hown
        clear hown
        go_wp2
        go_region
        all_goals go_wp2
        go_roundw
        case rel =>
          refine ⟨k + 1, by omega, by go_num, ?_, (hb.setCell (by simpa using (World.ownsRow.lt HO.out g rfl).1) _).drew⟩
          rw [xor_byteOf x t k hcb, HT.out, turn1_in hpk HX.out]
          exact World.ownsRow.drew (OwnN.set HO.out (p + k) _)
        case measure => simp [intOf]; omega
      · rw [turn1_out (by rw [HL'.out]; exact hin)] at HT
        by_cases h0 : 0 ≤ at_
        · have h1 : (n : Int) - k ≤ at_ := by omega
          clear hin
          go_wp2
          go_roundw
          case rel => exact ⟨k + 1, by omega, by go_num, by rw [HT.out]; exact hown, hb⟩
          case measure => simp [intOf]; omega
        · have h1 : at_ < 0 := by omega
          clear hin h0
          go_wp2
          go_roundw
          case rel => exact ⟨k + 1, by omega, by go_num, by rw [HT.out]; exact hown, hb⟩
          case measure => simp [intOf]; omega
    · obtain rfl : k = 4 := by omega
      have HM : Hid (Crc.turned l at_ t = m) := hid (by rw [← HE.out]; rfl)
      go_wp2
      go_ret
      exact ⟨_, rfl, by rw [HM.out]; exact hown, hb⟩

end Go.Proofs.YtagbnacffiagcaaDoor.CrcW

namespace Go.Proofs.YtagbnacffiagcaaDoor.CrcL
open Go Go.RowKit Go.Proofs.YtagbnacffiagcaaDoor.Mem Go.Proofs.YtagbnacffiagcaaDoor.RefW Go.Proofs.YtagbnacffiagcaaDoor.CrcW
set_option linter.unusedVariables false
set_option maxRecDepth 100000

set_option maxHeartbeats 1600000 in
/-- the document's: some of the bytes turned -/
theorem rturned_w (a : Option Addr) (n cap : Nat) (l : List Nat) (at_ : Int) (t : Nat) (w : World) (hr : Nums .u8 w a n cap l) (hbt : Crc.Bytes l) (hn : n ≤ 140737488355328)
    (hlo : -9223372036854775808 ≤ at_) (hhi : at_ ≤ 9223372036854775807) (ht : t < 4294967296) :
    Calls Tryd.prog 100 #[.slice a n cap, .int .i64 at_, .int .u32 t] w fun e w' => ∃ v, e = .returned v ∧ w'.ownsRow w.heap.size 5 1 v n (nums .u8 (Crc.turned l at_ t)) ∧ Below w.heap.size w w' := by
  have hbd := hr.bound
  obtain ⟨hb1, hb2⟩ := hbd
  have HL : Hid (l.length = n) := hr.len
  go_enter Tryd.func100, Tryd.ntmps100
  go_wp2_with fail
  refine (bytes_w a n cap l w hr hn).mono ?_
  rintro e w1 ⟨v1, rfl, own1, hb1⟩
  obtain ⟨a1, c1, rfl, _⟩ := ownsRow_slice own1
  clear hr
  have z1 := hb1.size
  have hcap : n ≤ c1 ∧ c1 ≤ 9223372036854775807 := by
    have h := (Row.owned own1).2; have := h.2.2.1; unfold maxLen at this; exact ⟨h.2.1, by omega⟩
  go_wp2
  go_loopw [8] (fun i wr => ∃ k : Nat, k ≤ 4 ∧ i = .int .i64 k ∧ wr.ownsRow w.heap.size 5 1 (.slice a1 n c1) n (nums .u8 (Crc.turnK l at_ t k)) ∧ Below w.heap.size w wr) (fun i _ => 4 - (intOf i).toNat)
  case atStart => exact ⟨0, by omega, rfl, own1, hb1⟩
  case round =>
    obtain ⟨k, hk, rfl, hown, hb⟩ := hrel
    have HT := hid (show Crc.turnK l at_ t (k + 1) = Crc.turn1 (Crc.turnK l at_ t k) at_ t k from rfl)
    have hbt' := Crc.turnK_bytes hbt at_ t k
    have HL' : Hid ((Crc.turnK l at_ t k).length = n) := hid (by rw [Crc.turnK_length]; exact HL.out)
    generalize he : Crc.turnK l at_ t k = m at hown HT hbt' HL'
    have HE := hid he
    clear he
    clear own1
    by_cases hlt : k < 4
    · by_cases hin : 0 ≤ at_ ∧ at_ < (n : Int) - k
      · obtain ⟨h0, h1⟩ := hin
        obtain ⟨p, rfl⟩ := Int.eq_ofNat_of_zero_le h0
        obtain ⟨g, rfl⟩ := own_some hown (by omega)
        have hpk : p + k < m.length := by rw [HL'.out]; omega
        have hc := OwnN.cell hown hpk
        have hf := World.ownsRow.frozenAt hown (p + k)
        have hcb : m[p + k] < 256 := hbt' _ (List.getElem_mem hpk)
        generalize hx : m[p + k] = x at hc hcb
        have HX := hid hx
        clear hx
        have HO := hid hown
        clear hown
        go_wp2
        go_roundw
        case rel =>
          refine ⟨k + 1, by omega, by go_num, ?_, hb.setCell (by simpa using (World.ownsRow.lt HO.out g rfl).1) _⟩
          rw [xor_byteOf x t k hcb, HT.out, turn1_in hpk HX.out]
          exact OwnN.set HO.out (p + k) _
        case measure => simp [intOf]; omega
      · rw [turn1_out (by rw [HL'.out]; exact hin)] at HT
        by_cases h0 : 0 ≤ at_
        · have h1 : (n : Int) - k ≤ at_ := by omega
          clear hin
          go_wp2
          go_roundw
          case rel => exact ⟨k + 1, by omega, by go_num, by rw [HT.out]; exact hown, hb⟩
          case measure => simp [intOf]; omega
        · have h1 : at_ < 0 := by omega
          clear hin h0
          go_wp2
          go_roundw
          case rel => exact ⟨k + 1, by omega, by go_num, by rw [HT.out]; exact hown, hb⟩
          case measure => simp [intOf]; omega
    · obtain rfl : k = 4 := by omega
      have HM : Hid (Crc.turned l at_ t = m) := hid (by rw [← HE.out]; rfl)
      go_wp2
      go_ret
      exact ⟨_, rfl, by rw [HM.out]; exact hown, hb⟩
end Go.Proofs.YtagbnacffiagcaaDoor.CrcL

namespace Go.Proofs.YtagbnacffiagcaaDoor.MapsW
open Go Go.RowKit Go.Maps Go.Proofs.YtagbnacffiagcaaDoor.Mem
set_option linter.unusedVariables false
set_option maxRecDepth 100000

theorem law : Keyed Tryd.prog 3 := int_keyed Tryd.underlying3
theorem wfi {i : Int} (h : -9223372036854775808 ≤ i ∧ i ≤ 9223372036854775807) : (Lit.int .i64 i).wf = true := by
  simp [Lit.wf, IntKind.min, IntKind.max, IntKind.signed, IntKind.bits]; omega
theorem key {i : Int} (h : -9223372036854775808 ≤ i ∧ i ≤ 9223372036854775807) : keyOf Tryd.prog 3 (.int .i64 i) = some (.int .i64 i) := keyOf_int_mk Tryd.underlying3 (wfi h)
theorem islit (i : Int) : WideAt.IsKeyLit (.int .i64 i) := trivial
/-- an int that fits -/
abbrev Fits (i : Int) : Prop := -9223372036854775808 ≤ i ∧ i ≤ 9223372036854775807

/-- how an element that is a row reads: its block, its length, its room -/
def rowd (g n cap : Nat) : DataW Unit := .agg [.lit (.int .i64 g), .lit (.int .i64 n), .lit (.int .i64 cap)]
def rowR : Value → Option (DataW Unit × List MemPlace)
  | .slice none 0 0 => some (.nil, [])
  | .slice (some ⟨g, 0, none⟩) n cap => some (rowd g n cap, [])
  | _ => none
theorem rowR_nil {v : Value} {ps : List MemPlace} (h : rowR v = some (.nil, ps)) : v = .slice none 0 0 := by
  unfold rowR at h
  split at h
  · rfl
  · simp [rowd] at h
  · cases h
theorem rowR_row {v : Value} {g n cap : Nat} {ps : List MemPlace} (h : rowR v = some (rowd g n cap, ps)) : v = .slice (some ⟨g, 0, none⟩) n cap := by
  unfold rowR at h
  split at h
  · simp [rowd] at h
  · simp only [rowd, Option.some.injEq, Prod.mk.injEq, DataW.agg.injEq, List.cons.injEq, DataW.lit.injEq, Lit.int.injEq, true_and, and_true, Int.natCast_inj] at h
    obtain ⟨⟨rfl, rfl, rfl⟩, _⟩ := h
    rfl
  · cases h
theorem rowR_mk (g n cap : Nat) : rowR (.slice (some ⟨g, 0, none⟩) n cap) = some (rowd g n cap, []) := rfl

/-- block b of w is a map of rows of 256 bytes, one at each key at which F has one; np of them; the rows lie from base on -/
def RowMap (w : World) (base b n : Nat) (F : Int → Option (List Nat)) (np : Nat) : Prop :=
  ∃ D, w.ownsMap Tryd.prog 3 rowR b n D ∧ Maps.size D = np ∧
    ∀ i, match F i with
      | none => Maps.has D (.int .i64 i) = false
      | some l => Maps.has D (.int .i64 i) = true ∧ ∃ g cap, (∀ z, D.atKey (.int .i64 i) z = rowd g 256 cap) ∧ Nums .u8 w (some ⟨g, 0, none⟩) 256 cap l ∧ base ≤ g
/-- block b of w is a map of bools -/
def BoolMap (w : World) (b n : Nat) (F : Int → Bool) : Prop :=
  ∃ D : DataW Unit, w.ownsMap Tryd.prog 3 (plainElem Tryd.prog 4) b n D ∧ ∀ i, D.atKey (.int .i64 i) (.lit (.bool false)) = .lit (.bool (F i))

theorem zeroRow (w : World) : (zeroValue 28).run Tryd.prog w = .ok (.slice none 0 0) w := by kernel_rfl
theorem zeroBool (w : World) : (zeroValue 4).run Tryd.prog w = .ok (.bool false) w := by kernel_rfl

theorem RowMap.mono {w : World} {base base' b n n' : Nat} {F : Int → Option (List Nat)} {np : Nat} (h : RowMap w base b n F np) (hn : n ≤ n') (hb : base' ≤ base) : RowMap w base' b n' F np := by
  obtain ⟨D, h1, h2, h3⟩ := h
  refine ⟨D, h1.mono hn, h2, fun i => ?_⟩
  have := h3 i
  cases hF : F i with
  | none => rw [hF] at this; exact this
  | some l =>
    rw [hF] at this
    obtain ⟨a, g, cap, b1, b2, b3⟩ := this
    exact ⟨a, g, cap, b1, b2, by omega⟩
theorem BoolMap.mono {w : World} {b n n' : Nat} {F : Int → Bool} (h : BoolMap w b n F) (hn : n ≤ n') : BoolMap w b n' F := by
  obtain ⟨D, h1, h2⟩ := h
  exact ⟨D, h1.mono hn, h2⟩
/-- a map's block -/
theorem RowMap.block {w : World} {base b n : Nat} {F : Int → Option (List Nat)} {np : Nat} (h : RowMap w base b n F np) : ∃ es ck, w.heap[b]? = some (.map es ck) := by
  obtain ⟨D, ⟨es, ck, h1, _⟩, _⟩ := h
  exact ⟨es, ck, h1⟩
theorem BoolMap.block {w : World} {b n : Nat} {F : Int → Bool} (h : BoolMap w b n F) : ∃ es ck, w.heap[b]? = some (.map es ck) := by
  obtain ⟨D, ⟨es, ck, h1, _⟩, _⟩ := h
  exact ⟨es, ck, h1⟩

/-- what is written elsewhere: the map's block, and each block of cells but d, are as they were -/
structure Still (d : Nat) (w w' : World) (b : Nat) : Prop where
  map : w'.heap[b]? = w.heap[b]?
  cells : ∀ k c t f, k ≠ d → w.heap[k]? = some (.cells c t f) → w'.heap[k]? = w.heap[k]?
theorem ownsMap_of {H : Type} {w w' : World} {P : Program} {k : TypeId} {R : Value → Option (DataW H × List MemPlace)} {b n : Nat} {D : DataW H} (h : w.ownsMap P k R b n D) (e : w'.heap[b]? = w.heap[b]?) : w'.ownsMap P k R b n D := by
  obtain ⟨es, ck, h1, h2⟩ := h
  exact ⟨es, ck, e.trans h1, h2⟩
theorem cell_cells {w : World} {b o : Nat} {v : Value} (h : w.cell? ⟨b, o, none⟩ = some v) : ∃ c t f, w.heap[b]? = some (.cells c t f) := by
  unfold World.cell? at h
  cases hb : w.heap[b]? with
  | none => simp [hb] at h
  | some o => cases o <;> simp [hb] at h ⊢
theorem nums_of_cells {k : IntKind} {w w' : World} {g n cap : Nat} {l : List Nat} (h : Nums k w (some ⟨g, 0, none⟩) n cap l) (e : w'.heap[g]? = w.heap[g]?) : Nums k w' (some ⟨g, 0, none⟩) n cap l := by
  obtain ⟨h1, h2, h3, h4, h5⟩ := h
  refine ⟨h1, h2, h3, h4, fun j u hj => ?_⟩
  obtain ⟨b, o, he, hc⟩ := h5 j u hj
  refine ⟨b, o, he, ?_⟩
  cases he
  rw [World.cell?_of_block (w := w) e]
  exact hc
theorem nums_cells {k : IntKind} {w : World} {g n cap : Nat} {l : List Nat} (h : Nums k w (some ⟨g, 0, none⟩) n cap l) (hn : 0 < n) : ∃ c t f, w.heap[g]? = some (.cells c t f) := by
  obtain ⟨b, o, he, hc⟩ := h.at (j := 0) (by rw [h.len]; exact hn)
  cases he
  exact cell_cells hc
theorem RowMap.still {w w' : World} {d base b n : Nat} {F : Int → Option (List Nat)} {np : Nat} (h : RowMap w base b n F np) (hd : d < base) (hs : Still d w w' b) : RowMap w' base b n F np := by
  obtain ⟨D, h1, h2, h3⟩ := h
  refine ⟨D, ownsMap_of h1 hs.map, h2, fun i => ?_⟩
  have := h3 i
  cases hF : F i with
  | none => rw [hF] at this; exact this
  | some l =>
    rw [hF] at this
    obtain ⟨a, g, cap, b1, b2, b3⟩ := this
    obtain ⟨c, t, f, hc⟩ := nums_cells b2 (by decide)
    exact ⟨a, g, cap, b1, nums_of_cells b2 (hs.cells g c t f (by omega) hc), b3⟩
theorem BoolMap.still {w w' : World} {b n : Nat} {F : Int → Bool} (h : BoolMap w b n F) (e : w'.heap[b]? = w.heap[b]?) : BoolMap w' b n F := by
  obtain ⟨D, h1, h2⟩ := h
  exact ⟨D, ownsMap_of h1 e, h2⟩

/-- a new map -/
theorem RowMap.made (w : World) (base : Nat) : RowMap (w.alloc (.map #[] 0)) base w.heap.size 0 (fun _ => none) 0 :=
  ⟨.map [], World.ownsMap_made _ _ _ _, rfl, fun i => rfl⟩
theorem BoolMap.made (w : World) : BoolMap (w.alloc (.map #[] 0)) w.heap.size 0 (fun _ => false) :=
  ⟨.map [], World.ownsMap_made _ _ _ _, fun i => rfl⟩

/-- what is looked up -/
theorem RowMap.look_none {w : World} {base b n : Nat} {F : Int → Option (List Nat)} {np : Nat} (h : RowMap w base b n F np) {i : Int} (hi : Fits i) (hF : F i = none) :
    (Instr.lookup 120 (.map (some b)) (.int .i64 i) false).run Tryd.prog w = .ok (.slice none 0 0) w := by
  obtain ⟨D, h1, _, h3⟩ := h
  have := h3 i
  rw [hF] at this
  obtain ⟨v, ps, hr, hv⟩ := h1.lookup law Tryd.underlying120 (zeroRow w) (zd := .nil) (zp := []) rfl (key hi)
  rw [atKey_of_not_has this] at hv
  rw [rowR_nil hv] at hr
  exact hr
theorem RowMap.look_some {w : World} {base b n : Nat} {F : Int → Option (List Nat)} {np : Nat} (h : RowMap w base b n F np) {i : Int} (hi : Fits i) {l : List Nat} (hF : F i = some l) :
    ∃ g cap, (Instr.lookup 120 (.map (some b)) (.int .i64 i) false).run Tryd.prog w = .ok (.slice (some ⟨g, 0, none⟩) 256 cap) w ∧ Nums .u8 w (some ⟨g, 0, none⟩) 256 cap l ∧ base ≤ g := by
  obtain ⟨D, h1, _, h3⟩ := h
  have := h3 i
  rw [hF] at this
  obtain ⟨_, g, cap, b1, b2, b3⟩ := this
  obtain ⟨v, ps, hr, hv⟩ := h1.lookup law Tryd.underlying120 (zeroRow w) (zd := .nil) (zp := []) rfl (key hi)
  rw [b1] at hv
  rw [rowR_row hv] at hr
  exact ⟨g, cap, hr, b2, b3⟩
theorem BoolMap.look {w : World} {b n : Nat} {F : Int → Bool} (h : BoolMap w b n F) {i : Int} (hi : Fits i) :
    (Instr.lookup 121 (.map (some b)) (.int .i64 i) false).run Tryd.prog w = .ok (.bool (F i)) w := by
  obtain ⟨D, h1, h2⟩ := h
  obtain ⟨v, ps, hr, hv⟩ := h1.lookup law Tryd.underlying121 (zeroBool w) (zd := .lit (.bool false)) (zp := []) (plainElem_bool Tryd.underlying4 false) (key hi)
  rw [h2 i] at hv
  have : v = .bool (F i) := by
    unfold plainElem at hv
    rw [Tryd.underlying4] at hv
    cases v <;> simp at hv
    rw [hv.1]
  rw [this] at hr
  exact hr

/-- one more, or another, at a key -/
def upd {α : Type} (F : Int → α) (i : Int) (x : α) : Int → α := fun j => if j = i then x else F j
theorem upd_same {α : Type} (F : Int → α) (i : Int) (x : α) : upd F i x i = x := if_pos rfl
theorem upd_other {α : Type} (F : Int → α) {i j : Int} (x : α) (h : j ≠ i) : upd F i x j = F j := if_neg h
theorem litne {i j : Int} (h : j ≠ i) : (Lit.int .i64 j) ≠ Lit.int .i64 i := fun e => h (Lit.int.inj e).2

theorem RowMap.put {w w' : World} {base b n : Nat} {F : Int → Option (List Nat)} {np : Nat} {D : DataW Unit} {i : Int} {g cap : Nat} {l : List Nat}
    (h2 : Maps.size D = np) (h3 : ∀ i, match F i with
      | none => Maps.has D (.int .i64 i) = false
      | some l => Maps.has D (.int .i64 i) = true ∧ ∃ g cap, (∀ z, D.atKey (.int .i64 i) z = rowd g 256 cap) ∧ Nums .u8 w (some ⟨g, 0, none⟩) 256 cap l ∧ base ≤ g)
    (hT : Tidy D) (hown : w'.ownsMap Tryd.prog 3 rowR b (n + 1) (D.put (.int .i64 i) (rowd g 256 cap))) (hg : w.grownBy w' (some b)) (hb : ∃ es ck, w.heap[b]? = some (.map es ck))
    (hl : Nums .u8 w (some ⟨g, 0, none⟩) 256 cap l) (hbg : base ≤ g) : RowMap w' base b (n + 1) (upd F i (some l)) (if (F i).isSome then np else np + 1) := by
  have hk : ∀ g' cap' (l' : List Nat), Nums .u8 w (some ⟨g', 0, none⟩) 256 cap' l' → Nums .u8 w' (some ⟨g', 0, none⟩) 256 cap' l' := by
    intro g' cap' l' hn
    obtain ⟨c, t, f, hc⟩ := nums_cells hn (by decide)
    refine nums_of_cells hn (hg.block g' (Array.getElem?_eq_some_iff.1 hc).1 fun e => ?_)
    obtain ⟨es, ck, hm⟩ := hb
    rw [Option.some.inj e] at hc
    rw [hm] at hc
    cases hc
  refine ⟨_, hown, ?_, fun j => ?_⟩
  · rw [size_put hT, h2]
    have := h3 i
    cases hF : F i with
    | none => rw [hF] at this; rw [this]; rfl
    | some l' => rw [hF] at this; rw [this.1]; rfl
  · by_cases hj : j = i
    · subst hj
      rw [upd_same]
      exact ⟨has_put_same hT.isMap (islit j) _, g, cap, fun z => atKey_put_same hT.isMap (islit j) _ z, hk _ _ _ hl, hbg⟩
    · rw [upd_other _ _ hj]
      have := h3 j
      cases hF : F j with
      | none => rw [hF] at this; exact (has_put_other (litne hj) _).trans this
      | some l' =>
        rw [hF] at this
        obtain ⟨a, g', cap', b1, b2, b3⟩ := this
        exact ⟨(has_put_other (litne hj) _).trans a, g', cap', fun z => (atKey_put_other (litne hj) _ z).trans (b1 z), hk _ _ _ b2, b3⟩

/-- 'm[i] = b' -/
theorem wpList_putRow (w : World) {ops : Array Oper} {rest : List Oper} {o : Oper} {a : Act} {Q : Exit → Act → World → Prop} (hg : o.guard = none) (m x v : Operand) (hop : o.op = Op.mapUpdate 120 m x v)
    {base b n : Nat} {F : Int → Option (List Nat)} {np : Nat} (h : RowMap w base b n F np) (hn : n < 1000000) {i : Int} (hi : Fits i) {g cap : Nat} {l : List Nat} (hl : Nums .u8 w (some ⟨g, 0, none⟩) 256 cap l) (hbg : base ≤ g)
    (hm : a.eval m = .map (some b)) (hx : a.eval x = .int .i64 i) (hv : a.eval v = .slice (some ⟨g, 0, none⟩) 256 cap)
    (hK : ∀ w', RowMap w' base b (n + 1) (upd F i (some l)) (if (F i).isSome then np else np + 1) → w.grownBy w' (some b) → wpList Tryd.prog ops Q rest (a.put o.dst undef) w') : wpList Tryd.prog ops Q (o :: rest) a w := by
  have hb := h.block
  obtain ⟨D, h1, h2, h3⟩ := h
  refine wpList_mapUpdate_own w hg m x v _ hop 3 28 law Tryd.underlying120 rowR b n D hm h1 (by unfold maxLen; omega) _ _ _ hx hv (key hi) _ [] (rowR_mk g 256 cap) fun w' ho hgw => ?_
  exact hK w' (RowMap.put h2 h3 (h1.tidy law) ho hgw hb hl hbg) hgw
/-- the same as an equation on the operation's run -/
theorem RowMap.store {w : World} {base b n : Nat} {F : Int → Option (List Nat)} {np : Nat} (h : RowMap w base b n F np) (hn : n < 1000000) {i : Int} (hi : Fits i) {g cap : Nat} {l : List Nat} (hl : Nums .u8 w (some ⟨g, 0, none⟩) 256 cap l) (hbg : base ≤ g) :
    ∃ w', (Instr.mapUpdate 120 (.map (some b)) (.int .i64 i) (.slice (some ⟨g, 0, none⟩) 256 cap)).run Tryd.prog w = .ok () w' ∧ RowMap w' base b (n + 1) (upd F i (some l)) (if (F i).isSome then np else np + 1) ∧ w.grownBy w' (some b) := by
  have hb := h.block
  obtain ⟨D, h1, h2, h3⟩ := h
  obtain ⟨w', hr, ho, hgw⟩ := h1.update law Tryd.underlying120 (by unfold maxLen; omega) (key hi) (rowR_mk g 256 cap)
  exact ⟨w', hr, RowMap.put h2 h3 (h1.tidy law) ho hgw hb hl hbg, hgw⟩
theorem wpList_putBool (w : World) {ops : Array Oper} {rest : List Oper} {o : Oper} {a : Act} {Q : Exit → Act → World → Prop} (hg : o.guard = none) (m x v : Operand) (hop : o.op = Op.mapUpdate 121 m x v)
    {b n : Nat} {F : Int → Bool} (h : BoolMap w b n F) (hn : n < 1000000) {i : Int} (hi : Fits i) (y : Bool)
    (hm : a.eval m = .map (some b)) (hx : a.eval x = .int .i64 i) (hv : a.eval v = .bool y)
    (hK : ∀ w', BoolMap w' b (n + 1) (upd F i y) → w.grownBy w' (some b) → wpList Tryd.prog ops Q rest (a.put o.dst undef) w') : wpList Tryd.prog ops Q (o :: rest) a w := by
  obtain ⟨D, h1, h2⟩ := h
  refine wpList_mapUpdate_own w hg m x v _ hop 3 4 law Tryd.underlying121 _ b n D hm h1 (by unfold maxLen; omega) _ _ _ hx hv (key hi) _ [] (plainElem_bool Tryd.underlying4 y) fun w' ho hgw => ?_
  refine hK w' ⟨_, ho, fun j => ?_⟩ hgw
  by_cases hj : j = i
  · subst hj
    rw [upd_same, atKey_put_same (h1.tidy law).isMap (islit j)]
  · rw [upd_other _ _ hj, atKey_put_other (litne hj), h2]
theorem wpList_delBool (w : World) {ops : Array Oper} {rest : List Oper} {o : Oper} {a : Act} {Q : Exit → Act → World → Prop} (hg : o.guard = none) (m x : Operand) (hop : o.op = Op.call { callee := Callee.builtin Builtin.delete, args := #[m, x], argTypes := #[121, 3] })
    {b n : Nat} {F : Int → Bool} (h : BoolMap w b n F) {i : Int} (hi : Fits i)
    (hm : a.eval m = .map (some b)) (hx : a.eval x = .int .i64 i)
    (hK : ∀ w', BoolMap w' b n (upd F i false) → w.grownBy w' (some b) → wpList Tryd.prog ops Q rest (a.put o.dst (.tuple #[])) w') : wpList Tryd.prog ops Q (o :: rest) a w := by
  obtain ⟨D, h1, h2⟩ := h
  refine wpList_delete_own w hg m x _ _ hop 4 law Tryd.underlying121 _ b n D hm h1 _ _ hx (key hi) fun w' ho hgw => ?_
  refine hK w' ⟨_, ho, fun j => ?_⟩ hgw.grown
  by_cases hj : j = i
  · subst hj
    rw [upd_same, atKey_del_same]
  · rw [upd_other _ _ hj, atKey_del_other (litne hj), h2]
end Go.Proofs.YtagbnacffiagcaaDoor.MapsW

namespace Go.Proofs.YtagbnacffiagcaaDoor.MapsW
open Go Go.RowKit Go.Maps Go.Proofs.YtagbnacffiagcaaDoor.Mem
set_option linter.unusedVariables false
set_option maxRecDepth 100000

/-- block b of w is a map of bools: true at each of its keys, k of them -/
def SetMap (w : World) (b n : Nat) (F : Int → Bool) (k : Nat) : Prop :=
  ∃ D : DataW Unit, w.ownsMap Tryd.prog 3 (plainElem Tryd.prog 4) b n D ∧ Maps.size D = k ∧ ∀ i, D.atKey (.int .i64 i) (.lit (.bool false)) = .lit (.bool (F i)) ∧ Maps.has D (.int .i64 i) = F i
theorem SetMap.bool {w : World} {b n k : Nat} {F : Int → Bool} (h : SetMap w b n F k) : BoolMap w b n F := by
  obtain ⟨D, h1, _, h2⟩ := h
  exact ⟨D, h1, fun i => (h2 i).1⟩
theorem SetMap.mono {w : World} {b n n' k : Nat} {F : Int → Bool} (h : SetMap w b n F k) (hn : n ≤ n') : SetMap w b n' F k := by
  obtain ⟨D, h1, h2⟩ := h
  exact ⟨D, h1.mono hn, h2⟩
theorem SetMap.block {w : World} {b n k : Nat} {F : Int → Bool} (h : SetMap w b n F k) : ∃ es ck, w.heap[b]? = some (.map es ck) := h.bool.block
theorem SetMap.still {w w' : World} {b n k : Nat} {F : Int → Bool} (h : SetMap w b n F k) (e : w'.heap[b]? = w.heap[b]?) : SetMap w' b n F k := by
  obtain ⟨D, h1, h2⟩ := h
  exact ⟨D, ownsMap_of h1 e, h2⟩
theorem SetMap.made (w : World) : SetMap (w.alloc (.map #[] 0)) w.heap.size 0 (fun _ => false) 0 :=
  ⟨.map [], World.ownsMap_made _ _ _ _, rfl, fun i => ⟨rfl, rfl⟩⟩
theorem wpList_putSet (w : World) {ops : Array Oper} {rest : List Oper} {o : Oper} {a : Act} {Q : Exit → Act → World → Prop} (hg : o.guard = none) (m x v : Operand) (hop : o.op = Op.mapUpdate 121 m x v)
    {b n k : Nat} {F : Int → Bool} (h : SetMap w b n F k) (hn : n < 1000000) {i : Int} (hi : Fits i)
    (hm : a.eval m = .map (some b)) (hx : a.eval x = .int .i64 i) (hv : a.eval v = .bool true)
    (hK : ∀ w', SetMap w' b (n + 1) (upd F i true) (if F i then k else k + 1) → w.grownBy w' (some b) → wpList Tryd.prog ops Q rest (a.put o.dst undef) w') : wpList Tryd.prog ops Q (o :: rest) a w := by
  obtain ⟨D, h1, h3, h2⟩ := h
  refine wpList_mapUpdate_own w hg m x v _ hop 3 4 law Tryd.underlying121 _ b n D hm h1 (by unfold maxLen; omega) _ _ _ hx hv (key hi) _ [] (plainElem_bool Tryd.underlying4 true) fun w' ho hgw => ?_
  refine hK w' ⟨_, ho, ?_, fun j => ?_⟩ hgw
  · rw [size_put (h1.tidy law), (h2 i).2, h3]
  · by_cases hj : j = i
    · subst hj
      rw [upd_same, atKey_put_same (h1.tidy law).isMap (islit j)]
      exact ⟨rfl, has_put_same (h1.tidy law).isMap (islit j) _⟩
    · rw [upd_other _ _ hj, atKey_put_other (litne hj), (h2 j).1]
      exact ⟨rfl, (has_put_other (litne hj) _).trans (h2 j).2⟩
theorem SetMap.len {w : World} {b n k : Nat} {F : Int → Bool} (h : SetMap w b n F k) : ∃ D : DataW Unit, w.ownsMap Tryd.prog 3 (plainElem Tryd.prog 4) b n D ∧ Maps.size D = k := by
  obtain ⟨D, h1, h2, _⟩ := h
  exact ⟨D, h1, h2⟩
/-- a row struck -/
theorem wpList_delRow (w : World) {ops : Array Oper} {rest : List Oper} {o : Oper} {a : Act} {Q : Exit → Act → World → Prop} (hg : o.guard = none) (m x : Operand) (hop : o.op = Op.call { callee := Callee.builtin Builtin.delete, args := #[m, x], argTypes := #[120, 3] })
    {base b n np : Nat} {F : Int → Option (List Nat)} (h : RowMap w base b n F np) {i : Int} (hi : Fits i)
    (hm : a.eval m = .map (some b)) (hx : a.eval x = .int .i64 i)
    (hK : ∀ w', RowMap w' base b n (upd F i none) (if (F i).isSome then np - 1 else np) → w.grownBy w' (some b) → wpList Tryd.prog ops Q rest (a.put o.dst (.tuple #[])) w') : wpList Tryd.prog ops Q (o :: rest) a w := by
  have hbk := h.block
  obtain ⟨D, h1, h2, h3⟩ := h
  refine wpList_delete_own w hg m x _ _ hop 28 law Tryd.underlying120 _ b n D hm h1 _ _ hx (key hi) fun w' ho hgw => ?_
  have hk : ∀ g' cap' (l' : List Nat), Nums .u8 w (some ⟨g', 0, none⟩) 256 cap' l' → Nums .u8 w' (some ⟨g', 0, none⟩) 256 cap' l' := by
    intro g' cap' l' hn
    obtain ⟨c, t, f, hc⟩ := nums_cells hn (by decide)
    refine nums_of_cells hn (hgw.grown.block g' (Array.getElem?_eq_some_iff.1 hc).1 fun e => ?_)
    obtain ⟨es, ck, hmm⟩ := hbk
    rw [Option.some.inj e] at hc
    rw [hmm] at hc
    cases hc
  refine hK w' ⟨_, ho, ?_, fun j => ?_⟩ hgw.grown
  · have hs := size_del (k := .int .i64 i) (h1.tidy law)
    rw [h2] at hs
    have := h3 i
    cases hF : F i with
    | none => rw [hF] at this; rw [this] at hs; simpa using hs
    | some l' => rw [hF] at this; rw [this.1] at hs; simp at hs ⊢; omega
  · by_cases hj : j = i
    · subst hj
      rw [upd_same]
      exact has_del_same
    · rw [upd_other _ _ hj]
      have := h3 j
      cases hF : F j with
      | none => rw [hF] at this; exact (has_del_other (litne hj)).trans this
      | some l' =>
        rw [hF] at this
        obtain ⟨a, g', cap', b1, b2, b3⟩ := this
        exact ⟨(has_del_other (litne hj)).trans a, g', cap', fun z => (atKey_del_other (litne hj) z).trans (b1 z), hk _ _ _ b2, b3⟩
end Go.Proofs.YtagbnacffiagcaaDoor.MapsW

namespace Go.Proofs.YtagbnacffiagcaaDoor.Err
open Go Go.RowKit Go.ChangeShapes
set_option maxRecDepth 100000

/-- an error that was made of a text, as a listed datum -/
def datum (t : List UInt8) : DataW Unit := .iface "*errors.errorString" (.ptr (.agg [.lit (.string t)]))
abbrev tp : TypeId := 213
/-- the variable at g holds the error at a -/
def At (w : World) (g : Nat) (a : Addr) : Prop := w.cell? ⟨g, 0, none⟩ = some (.iface tp (.pointer (some a))) ∧ ∃ c t, w.heap[a.block]? = some (.cells c t (0, 0))
theorem At.lt {w : World} {g : Nat} {a : Addr} (h : At w g a) : a.block < w.heap.size := by
  obtain ⟨_, c, t, h2⟩ := h
  rcases Nat.lt_or_ge a.block w.heap.size with h | h
  · exact h
  · rw [Array.getElem?_eq_none h] at h2; cases h2
theorem At.below {w w' : World} {g : Nat} {a : Addr} (h : At w g a) (hb : Below w.heap.size w w') : At w' g a := by
  have hl := h.lt
  obtain ⟨h1, c, t, h2⟩ := h
  refine ⟨?_, c, t, ?_⟩
  · have := World.block_lt_of_cell? w ⟨g, 0, none⟩ h1
    rw [hb.cell (p := ⟨g, 0, none⟩) this]
    exact h1
  · rw [hb.block _ hl]; exact h2

theorem star : "*" ++ "errors.errorString" = "*errors.errorString" := by decide
theorem hrow (u : TypeId) (h : Tryd.prog.typeName? 3 u = some "*errors.errorString") : u = tp :=
  typeName_ptr_named (P := Tryd.prog) (nm := "errors.errorString") (by rw [star]; kernel_rfl) (by kernel_rfl) (by decide) u (by rw [star]; exact h)

theorem of_vars {W : World} : ∀ (l : List (String × List UInt8)) (ps : List MemPlace), DataW.LaidVars Tryd.prog W (l.map fun x => (x.1, datum x.2)) ps →
    (∀ b off, MemPlace.cell b off ∈ ps → (∃ c t, W.heap[b]? = some (.cells c t (0, 0))) ∧ ∀ u v, W.cell? ⟨b, off, none⟩ = some (.iface u v) → Value.okWide Tryd.prog W .any 0 u v) →
    (∀ x ∈ l, ∃ g, Tryd.prog.globalNamed x.1 = some g ∧ (Tryd.prog.globals[g]?).map (·.type) = some 38) →
    ∃ bs : List Addr, bs.length = l.length ∧ (bs.map fun a => MemPlace.cell a.block a.off).Sublist ps ∧
      ∀ (i : Nat) (x : String × List UInt8) (g : Nat), l[i]? = some x → Tryd.prog.globalNamed x.1 = some g → ∃ a, bs[i]? = some a ∧ At W g a := by
  intro l
  induction l with
  | nil => intro ps _ _ _; exact ⟨[], rfl, List.nil_sublist _, fun i x g h => by simp at h⟩
  | cons x r ih =>
    intro ps hv hok hg
    obtain ⟨g0, t0, cs0, f0, p0, q0, hg0, ht0, hv0, hd0, hq, rfl⟩ := hv
    obtain ⟨g, hgn, hgt⟩ := hg x (by simp)
    obtain rfl := Option.some.inj (hgn.symm.trans hg0)
    obtain rfl := Option.some.inj (hgt.symm.trans ht0)
    obtain ⟨l0⟩ := cs0
    have ok0 : ∀ u v, l0 = [.iface u v] → Value.okWide Tryd.prog W .any 0 u v := fun u v e => by
      subst e
      exact (hok g 0 (by simp [MemPlace.row])).2 u v (by simpa using World.var?_cell hgn hv0 0)
    obtain ⟨a0, s0, hl0, _, _, _, rfl⟩ := errorString_of_trod Tryd.underlying38 hrow Tryd.underlying213 Tryd.underlying227 rfl rfl Tryd.underlying9 (by kernel_rfl) (by kernel_rfl) hd0 ok0
    subst hl0
    obtain ⟨bs, hlen, hsub, hat⟩ := ih q0 hq (fun b off hm => hok b off (List.mem_append_right _ hm)) (fun y hy => hg y (by simp [hy]))
    refine ⟨a0 :: bs, by simp [hlen], ?_, ?_⟩
    · have h1 : MemPlace.row a0 1 = [MemPlace.cell a0.block a0.off] := by simp [MemPlace.row]
      rw [h1, List.append_assoc]
      exact List.Sublist.trans (by simpa using hsub) (List.sublist_append_right _ _)
    · intro i y g' hi hg'
      cases i with
      | zero =>
        simp at hi
        subst hi
        obtain rfl := Option.some.inj (hgn.symm.trans hg')
        exact ⟨a0, rfl, by simpa using World.var?_cell hgn hv0 0, (hok a0.block a0.off (by simp [MemPlace.row])).1⟩
      | succ i => exact hat i y g' (by simpa using hi) hg'

/-- the listed errors: each at its variable, no two the same -/
theorem of_laid {W : World} (l : List (String × List UInt8)) (laid : List (String × DataW Unit)) (hl : laid = l.map fun x => (x.1, datum x.2)) (hp : (laid.all fun x => x.2.handleName?.isNone) = true) (h : laidMetH Tryd.prog laid W)
    (hg : ∀ x ∈ l, ∃ g, Tryd.prog.globalNamed x.1 = some g ∧ (Tryd.prog.globals[g]?).map (·.type) = some 38) :
    ∃ bs : List Addr, bs.length = l.length ∧ bs.Nodup ∧ ∀ (i : Nat) (x : String × List UInt8) (g : Nat), l[i]? = some x → Tryd.prog.globalNamed x.1 = some g → ∃ a, bs[i]? = some a ∧ At W g a := by
  rw [MakeChecks.laidMetH_plain _ _ _ hp] at h
  subst hl
  obtain ⟨ps, hv, hnd, hrows⟩ := h
  obtain ⟨bs, h1, h2, h3⟩ := of_vars l ps hv hrows hg
  refine ⟨bs, h1, ?_, h3⟩
  have hn := hnd.sublist h2
  exact (List.pairwise_map.1 hn).imp fun h e => h (by rw [e])

/-- each of the variables gl holds an error of its own -/
def All (w : World) (gl : List Nat) : Prop := ∃ bs : List Addr, bs.length = gl.length ∧ bs.Nodup ∧ ∀ (i g : Nat), gl[i]? = some g → ∃ a, bs[i]? = some a ∧ At w g a
theorem all_of_laid {W : World} (l : List (String × List UInt8)) (gl : List Nat) (laid : List (String × DataW Unit)) (hl : laid = l.map fun x => (x.1, datum x.2)) (hp : (laid.all fun x => x.2.handleName?.isNone) = true) (h : laidMetH Tryd.prog laid W)
    (hg : ∀ x ∈ l, ∃ g, Tryd.prog.globalNamed x.1 = some g ∧ (Tryd.prog.globals[g]?).map (·.type) = some 38)
    (hgl : (l.map fun x => Tryd.prog.globalNamed x.1) = gl.map some) : All W gl := by
  obtain ⟨bs, h1, h2, h3⟩ := of_laid l laid hl hp h hg
  have hlen := congrArg List.length hgl
  simp only [List.length_map] at hlen
  refine ⟨bs, by omega, h2, fun i g hi => ?_⟩
  have hlt : i < gl.length := (List.getElem?_eq_some_iff.1 hi).1
  have hlt2 : i < l.length := by omega
  have e := congrArg (fun z => z[i]?) hgl
  simp only [List.getElem?_map, hi, Option.map_some] at e
  rw [List.getElem?_eq_getElem hlt2] at e
  simp only [Option.map_some, Option.some.injEq] at e
  exact h3 i _ g (List.getElem?_eq_getElem hlt2) e
/-- of a list's variables some alone -/
theorem sub_vars {P : Program} {W : World} : ∀ {l l' : List (String × DataW Unit)}, l'.Sublist l → ∀ (ps : List MemPlace), DataW.LaidVars P W l ps → ∃ ps', DataW.LaidVars P W l' ps' ∧ ps'.Sublist ps := by
  intro l l' h
  induction h with
  | slnil => intro ps hv; exact ⟨ps, hv, List.Sublist.refl _⟩
  | cons a _ ih =>
    intro ps hv
    obtain ⟨g0, t0, cs0, f0, p0, q0, hg0, ht0, hv0, hd0, hq, rfl⟩ := hv
    obtain ⟨ps', h1, h2⟩ := ih q0 hq
    exact ⟨ps', h1, h2.trans (List.sublist_append_right _ _)⟩
  | cons_cons a _ ih =>
    intro ps hv
    obtain ⟨g0, t0, cs0, f0, p0, q0, hg0, ht0, hv0, hd0, hq, rfl⟩ := hv
    obtain ⟨ps', h1, h2⟩ := ih q0 hq
    exact ⟨_, ⟨g0, t0, cs0, f0, p0, ps', hg0, ht0, hv0, hd0, h1, rfl⟩, List.Sublist.append (List.Sublist.refl _) h2⟩
/-- the listed errors, where other variables are listed beside them -/
theorem all_of_sub {W : World} (l : List (String × List UInt8)) (gl : List Nat) (laid : List (String × DataW Unit)) (hl : (l.map fun x => (x.1, datum x.2)).Sublist laid) (hp : (laid.all fun x => x.2.handleName?.isNone) = true) (h : laidMetH Tryd.prog laid W)
    (hg : ∀ x ∈ l, ∃ g, Tryd.prog.globalNamed x.1 = some g ∧ (Tryd.prog.globals[g]?).map (·.type) = some 38)
    (hgl : (l.map fun x => Tryd.prog.globalNamed x.1) = gl.map some) : All W gl := by
  rw [MakeChecks.laidMetH_plain _ _ _ hp] at h
  obtain ⟨ps, hv, hnd, hrows⟩ := h
  obtain ⟨ps', hv', hsub⟩ := sub_vars hl ps hv
  obtain ⟨bs, h1, h2, h3⟩ := of_vars l ps' hv' (fun b off hm => hrows b off (hsub.subset hm)) hg
  have hn := (hnd.sublist hsub).sublist h2
  have hlen := congrArg List.length hgl
  simp only [List.length_map] at hlen
  refine ⟨bs, by omega, (List.pairwise_map.1 hn).imp fun h e => h (by rw [e]), fun i g hi => ?_⟩
  have hlt : i < gl.length := (List.getElem?_eq_some_iff.1 hi).1
  have hlt2 : i < l.length := by omega
  have e := congrArg (fun z => z[i]?) hgl
  simp only [List.getElem?_map, hi, Option.map_some] at e
  rw [List.getElem?_eq_getElem hlt2] at e
  simp only [Option.map_some, Option.some.injEq] at e
  exact h3 i _ g (List.getElem?_eq_getElem hlt2) e
theorem All.at {w : World} {gl : List Nat} (h : All w gl) (i g : Nat) (hi : gl[i]? = some g) : ∃ a, At w g a := by
  obtain ⟨bs, _, _, h3⟩ := h
  obtain ⟨a, _, ha⟩ := h3 i g hi
  exact ⟨a, ha⟩
theorem All.below {w w' : World} {gl : List Nat} (h : All w gl) (hb : Below w.heap.size w w') : All w' gl := by
  obtain ⟨bs, h1, h2, h3⟩ := h
  exact ⟨bs, h1, h2, fun i g hi => let ⟨a, ha, hA⟩ := h3 i g hi; ⟨a, ha, hA.below hb⟩⟩
end Go.Proofs.YtagbnacffiagcaaDoor.Err

namespace Go.Proofs.YtagbnacffiagcaaDoor.SeeW
open Go Go.RowKit Go.Proofs.YtagbnacffiagcaaDoor.Mem
set_option linter.unusedVariables false
set_option maxRecDepth 100000

/-- the variables of api's errors, in the order of the list -/
abbrev gl : List Nat := [9, 7, 0, 10, 6, 1, 2, 11, 3, 12, 13, 14, 15, 5, 4, 16, 17, 18, 19, 20, 21, 22, 23, 24]
/-- the errors stand at bs -/
def Bs (w : World) (bs : List Addr) : Prop := bs.length = 24 ∧ bs.Nodup ∧ ∀ (i g : Nat), gl[i]? = some g → ∃ a, bs[i]? = some a ∧ Err.At w g a
theorem Bs.below {w w' : World} {bs : List Addr} (h : Bs w bs) (hb : Below w.heap.size w w') : Bs w' bs := by
  obtain ⟨h1, h2, h3⟩ := h
  exact ⟨h1, h2, fun i g hi => let ⟨a, ha, hA⟩ := h3 i g hi; ⟨a, ha, hA.below hb⟩⟩
theorem bs_of {w : World} (h : Err.All w gl) : ∃ bs, Bs w bs := h
/-- an error as a value -/
abbrev ev (a : Addr) : Value := .iface Err.tp (.pointer (some a))
/-- a fault as a value -/
abbrev Ft (c : Int) (p : Bool) (q : Int) : Value := .agg #[.int .i64 c, .bool p, .int .i64 q]

theorem bare_w (c : Int) (w : World) : Calls Tryd.prog 84 #[.int .i64 c] w fun e w' => e = .returned (Ft c false 0) ∧ Below w.heap.size w w' := by
  go_enter Tryd.func84, Tryd.ntmps84
  go_wp2
  exact bodyPost_ret (v := Ft c false 0) (by simp [results, Tryd.results84, go_sem]) rfl ⟨rfl, (Below.refl _ _).alloc (Nat.le_refl _) _⟩
theorem none_w (w : World) : Calls Tryd.prog 122 #[] w fun e w' => e = .returned (Ft 0 false 0) ∧ Below w.heap.size w w' := by
  go_enter Tryd.func122, Tryd.ntmps122
  go_wp2
  exact bodyPost_ret (v := Ft 0 false 0) (by simp [results, Tryd.results122, go_sem]) rfl ⟨rfl, (Below.refl _ _).alloc (Nat.le_refl _) _⟩

theorem samefault_w (c c' : Int) (p p' : Bool) (q q' : Int) (w : World) :
    Calls Tryd.prog 110 #[Ft c p q, Ft c' p' q'] w fun e w' => e = .returned (.bool (c == c' && p == p' && q == q')) ∧ Below w.heap.size w w' := by
  by_cases h1 : (c == c') = true
  · by_cases h2 : (p == p') = true
    · rw [h1, h2]
      go_enter Tryd.func110, Tryd.ntmps110
      go_wp2
      go_ret
      exact ⟨ret_bool (by simp), ((Below.refl _ _).alloc (Nat.le_refl _) _).alloc (by simp) _⟩
    · have h2 : (p == p') = false := by simpa using h2
      rw [h1, h2]
      go_enter Tryd.func110, Tryd.ntmps110
      go_wp2
      go_ret
      exact ⟨ret_bool (by simp), ((Below.refl _ _).alloc (Nat.le_refl _) _).alloc (by simp) _⟩
  · have h1 : (c == c') = false := by simpa using h1
    rw [h1]
    go_enter Tryd.func110, Tryd.ntmps110
    go_wp2
    go_ret
    exact ⟨ret_bool (by simp), ((Below.refl _ _).alloc (Nat.le_refl _) _).alloc (by simp) _⟩

theorem alike_same (a : Addr) (w : World) : Calls Tryd.prog 134 #[ev a, ev a] w fun e w' => e = .returned (.bool true) ∧ w = w' := by
  obtain ⟨i, hi, hi2⟩ : ∃ i, Tryd.prog.info? Err.tp = some i ∧ i.comparable = true := ⟨_, rfl, by kernel_rfl⟩
  obtain ⟨j, hj⟩ : ∃ j, Tryd.prog.info? 227 = some j := ⟨_, rfl⟩
  have he := fun w => run_eql_iface_ptr_same (P := Tryd.prog) (w := w) a Tryd.underlying38 Tryd.underlying213 hi hi2 hj
  go_enter Tryd.func134, Tryd.ntmps134
  go_wp2
  go_ret
  exact ⟨rfl, rfl⟩
theorem alike_other (a b : Addr) (w : World) (hne : a ≠ b) {ca cb : Array Value} {ta tb : TypeId} (ha : w.heap[a.block]? = some (.cells ca ta (0, 0))) (hb : w.heap[b.block]? = some (.cells cb tb (0, 0))) :
    Calls Tryd.prog 134 #[ev a, ev b] w fun e w' => e = .returned (.bool false) ∧ w = w' := by
  obtain ⟨i, hi, hi2⟩ : ∃ i, Tryd.prog.info? Err.tp = some i ∧ i.comparable = true := ⟨_, rfl, by kernel_rfl⟩
  obtain ⟨j, hj, hj2⟩ : ∃ j, Tryd.prog.info? 227 = some j ∧ j.size ≠ 0 := ⟨_, rfl, by decide⟩
  have he := run_eql_iface_ptr_other (P := Tryd.prog) (w := w) Tryd.underlying38 Tryd.underlying213 hi hi2 hj hj2 hne ha hb
  clear hne ha hb
  go_enter Tryd.func134, Tryd.ntmps134
  go_wp2
  go_ret
  exact ⟨rfl, rfl⟩

set_option maxHeartbeats 800000 in
theorem sentinels_w (bs : List Addr) (w : World) (h : Bs w bs) :
    Calls Tryd.prog 133 #[] w fun e w' => ∃ g, e = .returned (.slice (some ⟨g, 0, none⟩) 24 24) ∧ (∀ (j : Nat) (a : Addr), bs[j]? = some a → w'.cell? ⟨g, j, none⟩ = some (ev a)) ∧ Below w.heap.size w w' := by
  obtain ⟨h1, h2, h3⟩ := h
  obtain ⟨b0, e0, q0, _⟩ := h3 0 _ rfl
  obtain ⟨b1, e1, q1, _⟩ := h3 1 _ rfl
  obtain ⟨b2, e2, q2, _⟩ := h3 2 _ rfl
  obtain ⟨b3, e3, q3, _⟩ := h3 3 _ rfl
  obtain ⟨b4, e4, q4, _⟩ := h3 4 _ rfl
  obtain ⟨b5, e5, q5, _⟩ := h3 5 _ rfl
  obtain ⟨b6, e6, q6, _⟩ := h3 6 _ rfl
  obtain ⟨b7, e7, q7, _⟩ := h3 7 _ rfl
  obtain ⟨b8, e8, q8, _⟩ := h3 8 _ rfl
  obtain ⟨b9, e9, q9, _⟩ := h3 9 _ rfl
  obtain ⟨b10, e10, q10, _⟩ := h3 10 _ rfl
  obtain ⟨b11, e11, q11, _⟩ := h3 11 _ rfl
  obtain ⟨b12, e12, q12, _⟩ := h3 12 _ rfl
  obtain ⟨b13, e13, q13, _⟩ := h3 13 _ rfl
  obtain ⟨b14, e14, q14, _⟩ := h3 14 _ rfl
  obtain ⟨b15, e15, q15, _⟩ := h3 15 _ rfl
  obtain ⟨b16, e16, q16, _⟩ := h3 16 _ rfl
  obtain ⟨b17, e17, q17, _⟩ := h3 17 _ rfl
  obtain ⟨b18, e18, q18, _⟩ := h3 18 _ rfl
  obtain ⟨b19, e19, q19, _⟩ := h3 19 _ rfl
  obtain ⟨b20, e20, q20, _⟩ := h3 20 _ rfl
  obtain ⟨b21, e21, q21, _⟩ := h3 21 _ rfl
  obtain ⟨b22, e22, q22, _⟩ := h3 22 _ rfl
  obtain ⟨b23, e23, q23, _⟩ := h3 23 _ rfl
  have hbs : bs = [b0, b1, b2, b3, b4, b5, b6, b7, b8, b9, b10, b11, b12, b13, b14, b15, b16, b17, b18, b19, b20, b21, b22, b23] := by
    apply List.ext_getElem?
    intro j
    rcases Nat.lt_or_ge j 24 with hj | hj
    · have hm : j ∈ List.range 24 := List.mem_range.2 hj
      simp only [show List.range 24 = [0, 1, 2, 3, 4, 5, 6, 7, 8, 9, 10, 11, 12, 13, 14, 15, 16, 17, 18, 19, 20, 21, 22, 23] from rfl, List.mem_cons, List.not_mem_nil, or_false] at hm
      rcases hm with rfl | rfl | rfl | rfl | rfl | rfl | rfl | rfl | rfl | rfl | rfl | rfl | rfl | rfl | rfl | rfl | rfl | rfl | rfl | rfl | rfl | rfl | rfl | rfl <;> first | exact e0 | exact e1 | exact e2 | exact e3 | exact e4 | exact e5 | exact e6 | exact e7 | exact e8 | exact e9 | exact e10 | exact e11 | exact e12 | exact e13 | exact e14 | exact e15 | exact e16 | exact e17 | exact e18 | exact e19 | exact e20 | exact e21 | exact e22 | exact e23
    · rw [List.getElem?_eq_none (by omega), List.getElem?_eq_none (by simpa using hj)]
  clear h1 h2 h3 e0 e1 e2 e3 e4 e5 e6 e7 e8 e9 e10 e11 e12 e13 e14 e15 e16 e17 e18 e19 e20 e21 e22 e23
  subst hbs
  go_enter Tryd.func133, Tryd.ntmps133
  go_wp2
  go_ret
  refine ⟨_, rfl, fun j a hj => ?_, (Below.refl _ _).alloc (Nat.le_refl _) _⟩
  rw [World.cell?_alloc_mark]
  have hk : ([b0, b1, b2, b3, b4, b5, b6, b7, b8, b9, b10, b11, b12, b13, b14, b15, b16, b17, b18, b19, b20, b21, b22, b23].map ev)[j]? = some (ev a) := by rw [List.getElem?_map, hj]; rfl
  simpa using hk

/-- the number of an error of the list -/
theorem sentinel_w (bs : List Addr) (w : World) (h : Bs w bs) (i : Nat) (a : Addr) (hi : bs[i]? = some a) :
    Calls Tryd.prog 123 #[ev a] w fun e w' => e = .returned (.int .i64 (101 + i)) ∧ Below w.heap.size w w' := by
  have hlen := h.1
  have hnd := h.2.1
  have hi24 : i < 24 := by have := (List.getElem?_eq_some_iff.1 hi).1; omega
  have HA : ∀ (k : Nat) (b : Addr) (w : World), Bs w bs → bs[k]? = some b → ∃ c t, w.heap[b.block]? = some (.cells c t (0, 0)) := by
    intro k b w h hb
    have hk : k < 24 := by have := (List.getElem?_eq_some_iff.1 hb).1; omega
    obtain ⟨g, hg⟩ : ∃ g, gl[k]? = some g := ⟨_, List.getElem?_eq_getElem (by simpa using hk)⟩
    obtain ⟨b', h1, h2⟩ := h.2.2 k g hg
    obtain rfl := Option.some.inj (hb.symm.trans h1)
    exact h2.2
  go_enter Tryd.func123, Tryd.ntmps123
  go_wp2_with fail
  refine (sentinels_w bs _ h).mono ?_
  rintro e w1 ⟨g, rfl, hc, hb1⟩
  have z1 := hb1.size
  have H1 := hid (h.below hb1)
  clear h
  go_wp2_with fail
  go_loopw [4] (fun x wr => ∃ k : Nat, k ≤ i ∧ x = .int .i64 k ∧ wr = w1) (fun x _ => 24 - (intOf x).toNat)
  case atStart => exact ⟨0, by omega, rfl, rfl⟩
  case round =>
    obtain ⟨k, hk, rfl, rfl⟩ := hrel
    have hk24 : k < 24 := by omega
    obtain ⟨b, hb⟩ : ∃ b, bs[k]? = some b := ⟨_, List.getElem?_eq_getElem (by omega)⟩
    have hcb := hc k b hb
    have HB := hid hb
    have HI := hid hi
    have HC := hid hc
    have HN := hid hnd
    have HL := hid hlen
    have HAA := hid HA
    clear hb hi hc hnd hlen HA
    go_wp2_with fail
    rcases Nat.lt_or_ge k i with hlt | hge
    · have hne : a ≠ b := by
        intro he
        subst he
        have h1 := List.getElem?_eq_some_iff.1 HI.out
        have h2 := List.getElem?_eq_some_iff.1 HB.out
        have := (List.getElem_inj HN.out).1 (h1.2.trans h2.2.symm)
        omega
      obtain ⟨ca, ta, ha⟩ := HAA.out i a _ H1.out HI.out
      obtain ⟨cb, tb, hb⟩ := HAA.out k b _ H1.out HB.out
      refine (alike_other a b _ hne ha hb).mono ?_
      rintro e w' ⟨rfl, rfl⟩
      clear ha hb hne
      go_wp2_with fail
      go_roundw
      case rel => exact ⟨k + 1, by omega, by simp⟩
      case measure => simp [intOf]; omega
    · obtain rfl : k = i := by omega
      obtain rfl := Option.some.inj (HB.out.symm.trans HI.out)
      refine (alike_same _ _).mono ?_
      rintro e w' ⟨rfl, rfl⟩
      go_wp2_with fail
      go_ret
      exact ⟨rfl, hb1⟩

/-- an error of the list is no error with a place -/
@[go_sem] theorem noplace (a : Addr) (W : World) : (Instr.typeAssert (ev a) 38 165 true).run Tryd.prog W = .ok (.tuple #[.pointer none, .bool false]) W := by kernel_rfl
/-- what a block of three cells gives a store -/
theorem three {w : World} {b : Nat} {x y z : Value} {t : TypeId} (h : w.heap[b]? = some (.cells #[x, y, z] t (0, 0))) :
    w.cell? ⟨b, 0, none⟩ = some x ∧ w.cell? ⟨b, 1, none⟩ = some y ∧ w.cell? ⟨b, 2, none⟩ = some z ∧ w.frozen? ⟨b, 0, none⟩ = false ∧ w.frozen? ⟨b, 1, none⟩ = false ∧ w.frozen? ⟨b, 2, none⟩ = false := by
  simp [World.cell?, World.frozen?, h]
theorem three_new {w w' : World} {x y z : Value} {t : TypeId} (hb : Below (w.alloc (.cells #[x, y, z] t)).heap.size (w.alloc (.cells #[x, y, z] t)) w') : w'.heap[w.heap.size]? = some (.cells #[x, y, z] t (0, 0)) := by
  rw [hb.block _ (by simp)]; exact heap_alloc_new _ _

theorem fault_nil (w : World) :
    Calls Tryd.prog 111 #[.nilIface] w fun e w' => e = .returned (Ft 0 false 0) ∧ Below w.heap.size w w' := by
  go_enter Tryd.func111, Tryd.ntmps111
  go_wp2_with fail
  refine (none_w _).mono ?_
  rintro e w1 ⟨rfl, hb1⟩
  obtain ⟨c0, c1, c2, f0, f1, f2⟩ := three (three_new hb1)
  have hs := hb1.size
  have HB := hid (below_put (Below.refl w.heap.size w) (Nat.le_refl _) _ hb1)
  clear hb1
  go_wp2_with fail
  refine bodyPost_ret (v := Ft 0 false 0) (by simp [results, Tryd.results111, go_sem, c0, c1, c2]) rfl ⟨rfl, ?_⟩
  exact ((HB.out.setCell (Nat.le_refl _) _).setCell (Nat.le_refl _) _).setCell (Nat.le_refl _) _
/-- an error of the list, as plain data -/
theorem fault_w (bs : List Addr) (w : World) (h : Bs w bs) (i : Nat) (a : Addr) (hi : bs[i]? = some a) :
    Calls Tryd.prog 111 #[ev a] w fun e w' => e = .returned (Ft (101 + i) false 0) ∧ Below w.heap.size w w' := by
  go_enter Tryd.func111, Tryd.ntmps111
  go_wp2_with fail
  refine (sentinel_w bs _ (h.below ((Below.refl _ _).alloc (Nat.le_refl _) _)) i a hi).mono ?_
  rintro e w1 ⟨rfl, hb1⟩
  have z1 := hb1.size
  have hz : w.heap.size < w1.heap.size := by simp at z1; omega
  have h1 := three_new hb1
  have hb1 := below_put (Below.refl w.heap.size w) (Nat.le_refl _) _ hb1
  go_wp2_with fail
  refine (bare_w _ _).mono ?_
  rintro e w2 ⟨rfl, hb2⟩
  have h2 : w2.heap[w.heap.size]? = _ := (hb2.block _ hz).trans h1
  obtain ⟨c0, c1, c2, f0, f1, f2⟩ := three h2
  have HB := hid (hb1.trans (hb2.mono (by omega)))
  clear hb1 hb2 h1 h2 z1 hz
  go_wp2_with fail
  refine bodyPost_ret (v := Ft (101 + i) false 0) (by simp [results, Tryd.results111, go_sem, c0, c1, c2]) rfl ⟨rfl, ?_⟩
  exact ((HB.out.setCell (Nat.le_refl _) _).setCell (Nat.le_refl _) _).setCell (Nat.le_refl _) _

/-- is an error of the list the one of this number? -/
theorem same_w (v : Value) (m : Int) (c : Int) (w : World) (hf : ∀ w1, Below w.heap.size w w1 → Calls Tryd.prog 111 #[v] w1 fun e w' => e = .returned (Ft m false 0) ∧ Below w1.heap.size w1 w') :
    Calls Tryd.prog 83 #[v, Ft c false 0] w fun e w' => e = .returned (.bool (m == c)) ∧ Below w.heap.size w w' := by
  go_enter Tryd.func83, Tryd.ntmps83
  go_wp2_with fail
  have hz : ∀ (o : Obj), (w.alloc o).drew.heap.size = (w.alloc o).heap.size := fun _ => rfl
  go_region_with (first
    | (go_at_call 111; refine (hf _ (((Below.refl _ _).alloc (Nat.le_refl _) _).drew)).mono ?_; rintro e w1 ⟨rfl, hb1⟩; have hb1 := ((Below.refl _ _).drew).trans hb1; obtain ⟨c0, c1, c2, f0, f1, f2⟩ := three (three_new hb1))
    | (go_at_call 110; refine (samefault_w m c false false 0 0 _).mono ?_; rintro e w2 ⟨rfl, hb2⟩))
  all_goals
    have hz1 := hb1.size
    have hb := (below_put (Below.refl w.heap.size w) (Nat.le_refl _) _ hb1).trans (hb2.mono (by simp at hz1; omega))
    clear hb1 hb2 hf hz
    go_wp2_with fail
    go_ret
    exact ⟨rfl, hb⟩
theorem is_w (bs : List Addr) (w : World) (h : Bs w bs) (i : Nat) (a : Addr) (hi : bs[i]? = some a) (c : Int) :
    Calls Tryd.prog 21 #[ev a, .int .i64 c] w fun e w' => e = .returned (.bool (101 + (i : Int) == c)) ∧ Below w.heap.size w w' := by
  go_enter Tryd.func21, Tryd.ntmps21
  go_wp2_with fail
  refine (bare_w _ _).mono ?_
  rintro e w1 ⟨rfl, hb1⟩
  go_wp2_with fail
  refine (same_w _ (101 + i) c _ fun w2 hb2 => fault_w bs _ ((h.below hb1).below hb2) i a hi).mono ?_
  rintro e w2 ⟨rfl, hb2⟩
  have hb := hb1.trans (hb2.mono hb1.size)
  go_wp2_with fail
  go_ret
  exact ⟨rfl, hb⟩
theorem is_nil (w : World) (c : Int) :
    Calls Tryd.prog 21 #[.nilIface, .int .i64 c] w fun e w' => e = .returned (.bool (0 == c)) ∧ Below w.heap.size w w' := by
  go_enter Tryd.func21, Tryd.ntmps21
  go_wp2_with fail
  refine (bare_w _ _).mono ?_
  rintro e w1 ⟨rfl, hb1⟩
  go_wp2_with fail
  refine (same_w _ 0 c _ fun w2 hb2 => fault_nil _).mono ?_
  rintro e w2 ⟨rfl, hb2⟩
  have hb := hb1.trans (hb2.mono hb1.size)
  go_wp2_with fail
  go_ret
  exact ⟨rfl, hb⟩
end Go.Proofs.YtagbnacffiagcaaDoor.SeeW
