/- Plain facts about the sum of chapter 2: one step by a bit is linear and one-to-one on words of 32 bits; so are many. No program stands here; Plain facts about the sum: bytes turned, four in a row or fewer, are told. No program stands here; Plain facts about roots: a root's bytes, the root of bytes; Plain facts: bytes turned are others, and so is their sum; a block of some bytes; Memory, as the walks of this seat speak of it: a slice that reads as a list; what stays when blocks are made; The walks of package breviaryref that many laws use: bytes copied, held against one another; Maps keyed by an int: of rows of bytes, of bools; The plain law of pages: what their blocks hold, how all is to lie behind a commit. -/
import Derived.WalkKit
import Derived.WalkSmall
import Derived.Laws.AppendOwnNone
import Derived.Laws.CopyOwn
import Derived.Test.YtbjfgdahfpfgdaaGreatDoorProg
import Derived.Deep.DeepMust
import Derived.Deep.QuietTactic
import Derived.BigQuiet
import Derived.WalkSpells
import Derived.Maps.OwnOps
import Derived.Maps.OwnSet
import Derived.Maps.RangeWalk
import Derived.Maps.Ext
namespace Go.Proofs.YtbjfgdahfpfgdaaGreatDoor.Crc

def P : Nat := 2197175160
def W : Nat := 4294967296
/-- one bit's step -/
def bit (n : Nat) : Nat := if n % 2 = 1 then n / 2 ^^^ P else n / 2
/-- k bits' steps -/
def bits : Nat → Nat → Nat
  | 0, n => n
  | k + 1, n => bits k (bit n)
/-- a byte's step -/
def step (n : Nat) : Nat := bits 8 n
theorem step_def (n : Nat) : step n = bits 8 n := rfl
attribute [irreducible] step
/-- the words that come of bytes -/
def run : Nat → List Nat → Nat
  | s, [] => s
  | s, c :: l => run (step (s ^^^ c)) l
/-- the sum -/
def sum (l : List Nat) : Nat := run (W - 1) l ^^^ (W - 1)

theorem xor_lt {a b : Nat} (ha : a < W) (hb : b < W) : a ^^^ b < W := Nat.xor_lt_two_pow (n := 32) ha hb
theorem xor_div (a b : Nat) : (a ^^^ b) / 2 = a / 2 ^^^ b / 2 := by
  have := Nat.shiftRight_xor_distrib (a := a) (b := b) (i := 1)
  simpa [Nat.shiftRight_succ] using this
theorem xor_mod (a b : Nat) : (a ^^^ b) % 2 = (a % 2 + b % 2) % 2 := by
  have := Nat.xor_mod_two_eq_one (a := a) (b := b)
  omega

theorem bit_lt {n : Nat} (h : n < W) : bit n < W := by
  unfold bit
  split
  · exact xor_lt (by simp only [W] at *; omega) (by decide)
  · simp only [W] at *; omega
theorem bit_xor (a b : Nat) : bit (a ^^^ b) = bit a ^^^ bit b := by
  unfold bit
  rw [xor_div, xor_mod]
  rcases Nat.mod_two_eq_zero_or_one a with ha | ha <;> rcases Nat.mod_two_eq_zero_or_one b with hb | hb <;> simp only [ha, hb]
  · simp
  · simp [Nat.xor_assoc]
  · simp only [if_true, show (0 : Nat) ≠ 1 by omega, if_false]
    rw [Nat.xor_assoc, Nat.xor_comm (b / 2), ← Nat.xor_assoc]
  · simp only [show (1 + 1) % 2 = 0 from rfl, show (0 : Nat) ≠ 1 by omega, if_false, if_true]
    rw [Nat.xor_assoc, Nat.xor_comm P, Nat.xor_assoc, Nat.xor_self, Nat.xor_zero]
theorem bit_zero : bit 0 = 0 := by decide
theorem bit_eq_zero {n : Nat} (h : n < W) (hb : bit n = 0) : n = 0 := by
  unfold bit at hb
  split at hb
  · have h1 : n / 2 = P := by
      have := congrArg (· ^^^ P) hb
      simpa [Nat.xor_assoc] using this
    simp only [W, P] at *; omega
  · omega
theorem bits_lt (k : Nat) : ∀ {n : Nat}, n < W → bits k n < W := by
  induction k with
  | zero => intro n h; exact h
  | succ k ih => intro n h; exact ih (bit_lt h)
theorem bits_xor (k : Nat) : ∀ a b, bits k (a ^^^ b) = bits k a ^^^ bits k b := by
  induction k with
  | zero => intro a b; rfl
  | succ k ih => intro a b; simp only [bits, bit_xor, ih]
theorem bits_zero (k : Nat) : bits k 0 = 0 := by
  induction k with
  | zero => rfl
  | succ k ih => simp only [bits, bit_zero, ih]
theorem bits_eq_zero (k : Nat) : ∀ {n : Nat}, n < W → bits k n = 0 → n = 0 := by
  induction k with
  | zero => intro n _ h; exact h
  | succ k ih => intro n h hb; exact bit_eq_zero h (ih (bit_lt h) hb)
theorem bits_add (j k n : Nat) : bits (j + k) n = bits k (bits j n) := by
  induction j generalizing n with
  | zero => simp [bits]
  | succ j ih => rw [Nat.add_right_comm]; simp only [bits, ih]
theorem bits_snoc (k n : Nat) : bits (k + 1) n = bit (bits k n) := by rw [bits_add]; rfl
/-- bits that stand high enough are only moved -/
theorem bits_high (k : Nat) : ∀ n, bits k (n * 2 ^ k) = n := by
  induction k with
  | zero => intro n; simp [bits]
  | succ k ih =>
    intro n
    have h2 : n * 2 ^ (k + 1) = 2 * (n * 2 ^ k) := by rw [Nat.pow_succ, ← Nat.mul_assoc, Nat.mul_comm]
    have : bit (n * 2 ^ (k + 1)) = n * 2 ^ k := by
      rw [h2]; unfold bit
      rw [if_neg (by omega)]
      omega
    simp only [bits, this, ih]
theorem step_lt {n : Nat} (h : n < W) : step n < W := by rw [step_def]; exact bits_lt 8 h
theorem step_xor (a b : Nat) : step (a ^^^ b) = step a ^^^ step b := by rw [step_def, step_def, step_def]; exact bits_xor 8 a b
theorem step_inj {a b : Nat} (ha : a < W) (hb : b < W) (h : step a = step b) : a = b := by
  have h1 : step (a ^^^ b) = 0 := by rw [step_xor, h, Nat.xor_self]
  rw [step_def] at h1
  have h2 := bits_eq_zero 8 (xor_lt ha hb) h1
  have := congrArg (· ^^^ b) h2
  simpa [Nat.xor_assoc] using this

def Bytes (l : List Nat) : Prop := ∀ x ∈ l, x < 256
theorem Bytes.head {c : Nat} {l : List Nat} (h : Bytes (c :: l)) : c < 256 := h c (by simp)
theorem Bytes.tail {c : Nat} {l : List Nat} (h : Bytes (c :: l)) : Bytes l := fun x hx => h x (by simp [hx])
theorem byte_lt {c : Nat} (h : c < 256) : c < W := by simp only [W]; omega

theorem run_lt (l : List Nat) : ∀ {s : Nat}, s < W → Bytes l → run s l < W := by
  induction l with
  | nil => intro s h _; exact h
  | cons c l ih => intro s h hb; exact ih (step_lt (xor_lt h (byte_lt hb.head))) hb.tail
theorem run_append (a b : List Nat) : ∀ s, run s (a ++ b) = run (run s a) b := by
  induction a with
  | nil => intro s; rfl
  | cons c l ih => intro s; exact ih _
theorem run_snoc (a : List Nat) (c s : Nat) : run s (a ++ [c]) = step (run s a ^^^ c) := run_append a [c] s
theorem run_inj (l : List Nat) : ∀ {s t : Nat}, s < W → t < W → Bytes l → run s l = run t l → s = t := by
  induction l with
  | nil => intro s t _ _ _ h; exact h
  | cons c l ih =>
    intro s t hs ht hb h
    have hc := byte_lt hb.head
    have h1 := step_inj (xor_lt hs hc) (xor_lt ht hc) (ih (step_lt (xor_lt hs hc)) (step_lt (xor_lt ht hc)) hb.tail h)
    have := congrArg (· ^^^ c) h1
    simpa [Nat.xor_assoc] using this
/-- what turns two lists into one another turns their words into one another -/
def turn : List Nat → List Nat → List Nat
  | a :: l, b :: m => (a ^^^ b) :: turn l m
  | _, _ => []
theorem run_xor (a : List Nat) : ∀ (b : List Nat) (s t : Nat), a.length = b.length → run s a ^^^ run t b = run (s ^^^ t) (turn a b) := by
  induction a with
  | nil =>
    intro b s t h
    obtain rfl : b = [] := by cases b; rfl; simp at h
    rfl
  | cons x l ih =>
    intro b s t h
    cases b with
    | nil => simp at h
    | cons y m =>
      have e : s ^^^ x ^^^ (t ^^^ y) = s ^^^ t ^^^ (x ^^^ y) := by
        rw [Nat.xor_assoc, ← Nat.xor_assoc x, Nat.xor_comm x, Nat.xor_assoc t, ← Nat.xor_assoc s]
      show run (step (s ^^^ x)) l ^^^ run (step (t ^^^ y)) m = run (step (s ^^^ t ^^^ (x ^^^ y))) (turn l m)
      rw [ih m (step (s ^^^ x)) (step (t ^^^ y)) (by simpa using h), ← step_xor, e]

theorem top_lt : W - 1 < W := by decide
theorem sum_lt {l : List Nat} (h : Bytes l) : sum l < W := by
  unfold sum
  exact xor_lt (run_lt l top_lt h) top_lt
theorem sum_inj {a b : List Nat} (h : sum a = sum b) : run (W - 1) a = run (W - 1) b := by
  have := congrArg (· ^^^ (W - 1)) h
  simpa [sum, Nat.xor_assoc] using this
theorem sum_nil : sum [] = 0 := by decide

/-- one byte that differs -/
theorem sum_one (a b : List Nat) (x y : Nat) (ha : Bytes a) (hb : Bytes b) (hx : x < 256) (hy : y < 256) :
    (sum (a ++ x :: b) = sum (a ++ y :: b)) ↔ x = y := by
  constructor
  · intro h
    have h1 := sum_inj h
    rw [run_append, run_append] at h1
    have hr := run_lt a (s := W - 1) (by decide) ha
    have h2 := run_inj b (step_lt (xor_lt hr (byte_lt hx))) (step_lt (xor_lt hr (byte_lt hy))) hb h1
    have h3 := step_inj (xor_lt hr (byte_lt hx)) (xor_lt hr (byte_lt hy)) h2
    have := congrArg (run (W - 1) a ^^^ ·) h3
    simpa [← Nat.xor_assoc] using this
  · rintro rfl; rfl

/-- the table -/
def tab (k : Nat) : List Nat := (List.range 256).map fun i => if i < k then step i else 0
theorem tab_length (k : Nat) : (tab k).length = 256 := by simp [tab]
theorem tab_get (k i : Nat) (h : i < 256) : (tab k)[i]? = some (if i < k then step i else 0) := by simp [tab, h]
theorem tab_zero : tab 0 = List.replicate 256 0 := by
  apply List.ext_getElem?
  intro i
  by_cases h : i < 256
  · rw [tab_get 0 i h, List.getElem?_replicate, if_pos h, if_neg (by omega)]
  · rw [List.getElem?_eq_none (by rw [tab_length]; omega), List.getElem?_replicate, if_neg h]
theorem tab_set (k : Nat) (_h : k < 256) : (tab k).set k (step k) = tab (k + 1) := by
  apply List.ext_getElem?
  intro i
  by_cases hi : i < 256
  · rw [tab_get _ i hi, List.getElem?_set, tab_length]
    by_cases e : k = i
    · subst e; simp [hi]
    · rw [if_neg e, tab_get _ i hi]
      by_cases h2 : i < k
      · rw [if_pos h2, if_pos (by omega)]
      · rw [if_neg h2, if_neg (by omega)]
  · rw [List.getElem?_eq_none (by simp [tab_length]; omega), List.getElem?_eq_none (by rw [tab_length]; omega)]

/-- byte i of a word -/
def byteOf (t i : Nat) : Nat := (t >>> (8 * i)) % 256
/-- one byte turned -/
def turn1 (l : List Nat) (at_ : Int) (t i : Nat) : List Nat :=
  if 0 ≤ at_ ∧ at_ < (l.length : Int) - i then l.set (at_.toNat + i) (l.getD (at_.toNat + i) 0 ^^^ byteOf t i) else l
/-- the first k bytes turned -/
def turnK (l : List Nat) (at_ : Int) (t : Nat) : Nat → List Nat
  | 0 => l
  | k + 1 => turn1 (turnK l at_ t k) at_ t k
def turned (l : List Nat) (at_ : Int) (t : Nat) : List Nat := turnK l at_ t 4
theorem turn1_length (l : List Nat) (at_ : Int) (t i : Nat) : (turn1 l at_ t i).length = l.length := by
  unfold turn1; split <;> simp
theorem turnK_length (l : List Nat) (at_ : Int) (t k : Nat) : (turnK l at_ t k).length = l.length := by
  induction k with
  | zero => rfl
  | succ k ih => rw [turnK, turn1_length, ih]
theorem byteOf_lt (t i : Nat) : byteOf t i < 256 := Nat.mod_lt _ (by decide)
theorem xor_byte {a b : Nat} (ha : a < 256) (hb : b < 256) : a ^^^ b < 256 := Nat.xor_lt_two_pow (n := 8) ha hb
theorem turn1_bytes {l : List Nat} (h : Bytes l) (at_ : Int) (t i : Nat) : Bytes (turn1 l at_ t i) := by
  unfold turn1
  split
  · rename_i hc
    intro x hx
    rcases List.mem_or_eq_of_mem_set hx with h1 | h1
    · exact h x h1
    · subst h1
      refine xor_byte ?_ (byteOf_lt _ _)
      have hj : at_.toNat + i < l.length := by omega
      rw [List.getD_eq_getElem?_getD, List.getElem?_eq_getElem hj]
      exact h _ (List.getElem_mem hj)
  · exact h
theorem turnK_bytes {l : List Nat} (h : Bytes l) (at_ : Int) (t k : Nat) : Bytes (turnK l at_ t k) := by
  induction k with
  | zero => exact h
  | succ k ih => exact turn1_bytes ih _ _ _

/-- a word of the table, and what is above the lowest byte -/
theorem step_tab (s c : Nat) : step (s ^^^ c) = step ((s % 256) ^^^ c) ^^^ s / 256 := by
  have h1 : s = (s % 256) ^^^ (s / 256 * 256) := by
    have := Nat.two_pow_add_eq_or_of_lt (i := 8) (b := s % 256) (Nat.mod_lt _ (by decide)) (s / 256)
    have h2 : (s / 256 * 256) ^^^ (s % 256) = s / 256 * 256 + s % 256 := by
      apply Nat.eq_of_testBit_eq
      intro i
      have h3 : s / 256 * 256 + s % 256 = 2 ^ 8 * (s / 256) + s % 256 := congrArg (· + s % 256) (Nat.mul_comm _ _)
      rw [h3, this, Nat.testBit_xor, Nat.testBit_or]
      have h4 : s / 256 * 256 = 2 ^ 8 * (s / 256) := Nat.mul_comm _ _
      rw [h4, Nat.testBit_two_pow_mul]
      by_cases hi : 8 ≤ i
      · have : (s % 256).testBit i = false := by
          apply Nat.testBit_lt_two_pow
          exact Nat.lt_of_lt_of_le (Nat.mod_lt _ (by decide)) (Nat.pow_le_pow_right (n := 2) (by decide) hi)
        simp [this]
      · simp [hi]
    rw [Nat.xor_comm, h2]; omega
  have h5 : s ^^^ c = ((s % 256) ^^^ c) ^^^ (s / 256 * 256) := by
    rw [Nat.xor_assoc, Nat.xor_comm c, ← Nat.xor_assoc, ← h1]
  have h6 : step (s / 256 * 256) = s / 256 := by rw [step_def]; exact bits_high 8 (s / 256)
  rw [h5, step_xor, h6]

/-- words of the table -/
theorem tab_at {i : Nat} (h : i < 256) : (tab 256)[i]? = some (step i) := by rw [tab_get _ _ h, if_pos h]
theorem step_eq {i j : Nat} (hi : i < 256) (hj : j < 256) : step i = step j ↔ i = j :=
  ⟨fun h => step_inj (byte_lt hi) (byte_lt hj) h, fun h => by rw [h]⟩
end Go.Proofs.YtbjfgdahfpfgdaaGreatDoor.Crc

namespace Go.Proofs.YtbjfgdahfpfgdaaGreatDoor.Crc

/-- bytes as one word, the first the lowest -/
def val : List Nat → Nat
  | [] => 0
  | c :: l => c ^^^ (val l * 256)
theorem run_val (l : List Nat) : ∀ s, run s l = bits (8 * l.length) (s ^^^ val l) := by
  induction l with
  | nil => intro s; simp [run, val, bits]
  | cons c l ih =>
    intro s
    have h1 : val l = step (val l * 256) := by rw [step_def]; exact (bits_high 8 (val l)).symm
    have hr : run s (c :: l) = run (step (s ^^^ c)) l := by rw [run]
    have hv : val (c :: l) = c ^^^ val l * 256 := by rw [val]
    have h2 : step (s ^^^ c) ^^^ val l = bits 8 (s ^^^ val (c :: l)) := by
      rw [hv, ← step_def, ← Nat.xor_assoc, step_xor (s ^^^ c), ← h1]
    have hl : 8 * (c :: l).length = 8 + 8 * l.length := by simp only [List.length_cons]; omega
    rw [hr, ih, h2, hl, bits_add]
theorem val_lt (l : List Nat) (h : Bytes l) : val l < 2 ^ (8 * l.length) := by
  induction l with
  | nil => simp [val]
  | cons c l ih =>
    have h1 := ih h.tail
    have hc := h.head
    have e : 8 * (c :: l).length = 8 * l.length + 8 := by simp; omega
    rw [e]
    refine Nat.xor_lt_two_pow ?_ ?_
    · exact Nat.lt_of_lt_of_le hc (Nat.pow_le_pow_right (n := 2) (i := 8) (by decide) (by omega))
    · rw [Nat.pow_add]
      exact Nat.mul_lt_mul_of_pos_right h1 (by decide)
theorem val_zero (l : List Nat) (h : Bytes l) (hv : val l = 0) : ∀ x ∈ l, x = 0 := by
  induction l with
  | nil => simp
  | cons c l ih =>
    have hc := h.head
    have h1 : c = val l * 256 := by
      have := congrArg (· ^^^ (val l * 256)) hv
      simpa [val, Nat.xor_assoc] using this
    have h2 : val l = 0 := by omega
    intro x hx
    rcases List.mem_cons.1 hx with rfl | hx
    · omega
    · exact ih h.tail h2 x hx
theorem turn_bytes : ∀ (a b : List Nat), Bytes a → Bytes b → Bytes (turn a b)
  | [], _, _, _ => by simp [turn, Bytes]
  | _ :: _, [], _, _ => by simp [turn, Bytes]
  | x :: a, y :: b, ha, hb => by
    intro z hz
    rcases List.mem_cons.1 hz with rfl | hz
    · exact xor_byte ha.head hb.head
    · exact turn_bytes a b ha.tail hb.tail z hz
theorem turn_length : ∀ (a b : List Nat), a.length = b.length → (turn a b).length = a.length
  | [], _, _ => by simp [turn]
  | _ :: _, [], h => by simp at h
  | _ :: a, _ :: b, h => by simp [turn, turn_length a b (by simpa using h)]
theorem turn_zero : ∀ (a b : List Nat), a.length = b.length → (∀ x ∈ turn a b, x = 0) → a = b
  | [], b, h, _ => by cases b; rfl; simp at h
  | x :: a, [], h, _ => by simp at h
  | x :: a, y :: b, h, hz => by
    have h1 : x ^^^ y = 0 := hz _ (by simp [turn])
    have h2 : x = y := by
      have := congrArg (· ^^^ y) h1
      simpa [Nat.xor_assoc] using this
    rw [h2, turn_zero a b (by simpa using h) (fun z hz' => hz z (by simp [turn, hz']))]
/-- four bytes or fewer -/
theorem run_four {a b : List Nat} (ha : Bytes a) (hb : Bytes b) (hl : a.length = b.length) (h4 : a.length ≤ 4) {s : Nat} (h : run s a = run s b) : a = b := by
  have h1 : run 0 (turn a b) = 0 := by
    have := run_xor a b s s hl
    rw [h, Nat.xor_self, Nat.xor_self] at this
    exact this.symm
  rw [run_val, Nat.zero_xor] at h1
  have ht := turn_bytes a b ha hb
  have hv := val_lt _ ht
  rw [turn_length a b hl] at hv
  have hW : val (turn a b) < W := Nat.lt_of_lt_of_le hv (Nat.pow_le_pow_right (n := 2) (j := 32) (by decide) (by omega))
  exact turn_zero a b hl (val_zero _ ht (bits_eq_zero _ hW h1))
theorem Bytes_append {a b : List Nat} (h : Bytes (a ++ b)) : Bytes a ∧ Bytes b := ⟨fun x hx => h x (by simp [hx]), fun x hx => h x (by simp [hx])⟩
theorem sum_four {a m m' b : List Nat} (h : Bytes (a ++ (m ++ b))) (h' : Bytes (a ++ (m' ++ b))) (hl : m.length = m'.length) (h4 : m.length ≤ 4)
    (hs : sum (a ++ (m ++ b)) = sum (a ++ (m' ++ b))) : m = m' := by
  have h1 := sum_inj hs
  rw [run_append, run_append, run_append, run_append] at h1
  have ha := (Bytes_append h).1
  have hm := (Bytes_append (Bytes_append h).2).1
  have hb := (Bytes_append (Bytes_append h).2).2
  have hm' := (Bytes_append (Bytes_append h').2).1
  have hr := run_lt a (s := W - 1) top_lt ha
  exact run_four hm hm' hl h4 (run_inj b (run_lt m hr hm) (run_lt m' hr hm') hb h1)

/-- which bytes were turned -/
theorem turnK_get (l : List Nat) (p t k : Nat) : ∀ j, (turnK l (p : Int) t k)[j]? = (l[j]?).map fun c => if p ≤ j ∧ j < p + k then c ^^^ byteOf t (j - p) else c := by
  induction k with
  | zero => intro j; simp only [turnK]; cases l[j]? with
    | none => rfl
    | some c => simp only [Option.map_some]; rw [if_neg (by omega)]
  | succ k ih =>
    intro j
    show (turn1 (turnK l p t k) p t k)[j]? = _
    unfold turn1
    rw [turnK_length]
    by_cases hin : p + k < l.length
    · rw [if_pos (by omega)]
      simp only [Int.toNat_natCast]
      rw [List.getElem?_set, turnK_length, List.getD_eq_getElem?_getD, ih (p + k), List.getElem?_eq_getElem hin]
      by_cases e : p + k = j
      · subst e
        rw [if_pos rfl, if_pos hin]
        rw [List.getElem?_eq_getElem hin]
        simp only [Option.map_some, Option.getD_some]
        rw [if_neg (by omega), if_pos (by omega)]
        rw [Nat.add_sub_cancel_left]
      · rw [if_neg e, ih j]
        cases l[j]? with
        | none => rfl
        | some c =>
          simp only [Option.map_some]
          by_cases h2 : p ≤ j ∧ j < p + k
          · rw [if_pos h2, if_pos (by omega)]
          · rw [if_neg h2, if_neg (by omega)]
    · rw [if_neg (by omega), ih j]
      by_cases hj : j < l.length
      · rw [List.getElem?_eq_getElem hj]
        simp only [Option.map_some]
        by_cases h2 : p ≤ j ∧ j < p + k
        · rw [if_pos h2, if_pos (by omega)]
        · rw [if_neg h2, if_neg (by omega)]
      · rw [List.getElem?_eq_none (by omega)]; rfl
theorem turned_neg (l : List Nat) {at_ : Int} (t : Nat) (h : at_ < 0) : ∀ k, turnK l at_ t k = l
  | 0 => rfl
  | k + 1 => by rw [turnK, turned_neg l t h k]; unfold turn1; rw [if_neg (by omega)]
theorem turned_length (l : List Nat) (at_ : Int) (t : Nat) : (turned l at_ t).length = l.length := turnK_length l at_ t 4
theorem turned_bytes {l : List Nat} (h : Bytes l) (at_ : Int) (t : Nat) : Bytes (turned l at_ t) := turnK_bytes h at_ t 4
/-- turned twice -/
theorem turned_twice (l : List Nat) (at_ : Int) (t : Nat) : turned (turned l at_ t) at_ t = l := by
  by_cases h : at_ < 0
  · unfold turned; rw [turned_neg _ _ h, turned_neg _ _ h]
  · obtain ⟨p, rfl⟩ := Int.eq_ofNat_of_zero_le (a := at_) (by omega)
    apply List.ext_getElem?
    intro j
    show (turnK _ (p : Int) t 4)[j]? = _
    rw [turnK_get]
    show Option.map _ (turnK l (p : Int) t 4)[j]? = _
    rw [turnK_get]
    cases l[j]? with
    | none => rfl
    | some c =>
      simp only [Option.map_some]
      by_cases h2 : p ≤ j ∧ j < p + 4
      · rw [if_pos h2, if_pos h2, Nat.xor_assoc, Nat.xor_self, Nat.xor_zero]
      · rw [if_neg h2, if_neg h2]
theorem parts (l : List Nat) (p : Nat) : l = l.take p ++ ((l.drop p).take 4 ++ l.drop (p + 4)) := by
  have h1 : (l.drop p).take 4 ++ (l.drop p).drop 4 = l.drop p := List.take_append_drop 4 _
  rw [List.drop_drop] at h1
  rw [h1, List.take_append_drop]
/-- turned bytes have another sum, but where nothing was turned -/
theorem turned_sum {l : List Nat} (hb : Bytes l) (at_ : Int) (t : Nat) : (sum (turned l at_ t) = sum l) ↔ l = turned l at_ t := by
  constructor
  · intro h
    by_cases hn : at_ < 0
    · unfold turned; rw [turned_neg _ _ hn]
    · obtain ⟨p, rfl⟩ := Int.eq_ofNat_of_zero_le (a := at_) (by omega)
      have hb' := turned_bytes hb (p : Int) t
      have hlen := turned_length l (p : Int) t
      have hget : ∀ j, (turned l (p : Int) t)[j]? = _ := turnK_get l p t 4
      generalize hm : turned l (p : Int) t = m at *
      have e1 : m.take p = l.take p := by
        apply List.ext_getElem?
        intro j
        rw [List.getElem?_take, List.getElem?_take]
        by_cases hj : j < p
        · rw [if_pos hj, if_pos hj, hget j]
          cases l[j]? with
          | none => rfl
          | some c => simp only [Option.map_some]; rw [if_neg (by omega)]
        · rw [if_neg hj, if_neg hj]
      have e2 : m.drop (p + 4) = l.drop (p + 4) := by
        apply List.ext_getElem?
        intro j
        rw [List.getElem?_drop, List.getElem?_drop, hget]
        cases l[p + 4 + j]? with
        | none => rfl
        | some c => simp only [Option.map_some]; rw [if_neg (by omega)]
      have pm := parts m p
      have pl := parts l p
      rw [e1, e2] at pm
      have hs : sum (l.take p ++ ((l.drop p).take 4 ++ l.drop (p + 4))) = sum (l.take p ++ ((m.drop p).take 4 ++ l.drop (p + 4))) := by
        rw [← pm, ← pl]; exact h.symm
      have e3 := sum_four (by rw [← pl]; exact hb) (by rw [← pm]; exact hb') (by simp [hlen]) (by simp; omega) hs
      rw [pm, ← e3, ← pl]
  · intro h; rw [← h]

/-- nothing, as long -/
theorem turn_turned (l : List Nat) (at_ : Int) (t : Nat) : turn l (turned l at_ t) = turn (turned (List.replicate l.length 0) at_ t) (List.replicate l.length 0) := by
  have get : ∀ (a b : List Nat) (j : Nat), (turn a b)[j]? = (match a[j]?, b[j]? with | some x, some y => some (x ^^^ y) | _, _ => none) := by
    intro a
    induction a with
    | nil => intro b j; simp [turn]
    | cons x a ih =>
      intro b j
      cases b with
      | nil => cases j <;> simp [turn]
      | cons y b =>
        cases j with
        | zero => simp [turn]
        | succ j => simp only [turn, List.getElem?_cons_succ]; exact ih b j
  apply List.ext_getElem?
  intro j
  rw [get, get]
  by_cases hn : at_ < 0
  · unfold turned; rw [turned_neg _ _ hn, turned_neg _ _ hn]
    by_cases hj : j < l.length
    · simp [hj]
    · simp [hj]
  · obtain ⟨p, rfl⟩ := Int.eq_ofNat_of_zero_le (a := at_) (by omega)
    show (match l[j]?, (turnK l (p : Int) t 4)[j]? with | some x, some y => some (x ^^^ y) | _, _ => none) = (match (turnK (List.replicate l.length 0) (p : Int) t 4)[j]?, (List.replicate l.length 0)[j]? with | some x, some y => some (x ^^^ y) | _, _ => none)
    rw [turnK_get, turnK_get]
    by_cases hj : j < l.length
    · rw [List.getElem?_eq_getElem hj, List.getElem?_replicate, if_pos hj]
      simp only [Option.map_some]
      by_cases h2 : p ≤ j ∧ j < p + 4
      · rw [if_pos h2, if_pos h2, ← Nat.xor_assoc]; simp
      · rw [if_neg h2, if_neg h2]; simp
    · rw [List.getElem?_eq_none (by omega), List.getElem?_replicate, if_neg hj]; rfl
theorem four_xor (a b c d q : Nat) (h : a ^^^ b = c ^^^ d) : (a ^^^ q) ^^^ (b ^^^ q) ^^^ (c ^^^ q) ^^^ (d ^^^ q) = 0 := by
  have e : ∀ x y : Nat, (x ^^^ q) ^^^ (y ^^^ q) = x ^^^ y := by
    intro x y
    rw [Nat.xor_assoc, ← Nat.xor_assoc q, Nat.xor_comm q, Nat.xor_assoc y, Nat.xor_self, Nat.xor_zero]
  rw [e, Nat.xor_assoc, e, h, Nat.xor_self]
/-- the four sums of CrcXors -/
theorem sum_turned (l : List Nat) (at_ : Int) (t : Nat) :
    sum l ^^^ sum (turned l at_ t) ^^^ sum (turned (List.replicate l.length 0) at_ t) ^^^ sum (List.replicate l.length 0) = 0 := by
  refine four_xor _ _ _ _ _ ?_
  rw [run_xor _ _ _ _ (by rw [turned_length]), run_xor _ _ _ _ (by rw [turned_length]), turn_turned]
end Go.Proofs.YtbjfgdahfpfgdaaGreatDoor.Crc

namespace Go.Proofs.YtbjfgdahfpfgdaaGreatDoor.RootP
open Go
set_option linter.unusedVariables false

/-- a root: its epoch, its places and their sums -/
structure Rt where
  ep : Int
  rs : List (Int × Nat)
deriving DecidableEq

/-- k bytes of a number, the lowest first -/
def le : Nat → Nat → List Nat
  | 0, _ => []
  | k + 1, n => (n % 256) :: le k (n / 256)
/-- the number of bytes -/
def un : List Nat → Nat
  | [] => 0
  | b :: l => b + 256 * un l
theorem le_length (k n : Nat) : (le k n).length = k := by
  induction k generalizing n with
  | zero => rfl
  | succ k ih => simp [le, ih]
theorem le_get (k n i : Nat) (h : i < k) : (le k n)[i]? = some (n / 256 ^ i % 256) := by
  induction k generalizing n i with
  | zero => omega
  | succ k ih =>
    cases i with
    | zero => simp [le]
    | succ i =>
      show (le k (n / 256))[i]? = _
      rw [ih _ _ (by omega), Nat.div_div_eq_div_mul, Nat.pow_succ, Nat.mul_comm]
theorem le_bytes (k n : Nat) : ∀ x ∈ le k n, x < 256 := by
  induction k generalizing n with
  | zero => simp [le]
  | succ k ih =>
    intro x hx
    simp only [le, List.mem_cons] at hx
    rcases hx with rfl | hx
    · exact Nat.mod_lt _ (by decide)
    · exact ih _ x hx
theorem un_le (k n : Nat) (h : n < 256 ^ k) : un (le k n) = n := by
  induction k generalizing n with
  | zero => simp at h; simp [le, un]; omega
  | succ k ih =>
    have : n / 256 < 256 ^ k := by rw [Nat.pow_succ] at h; omega
    simp only [le, un, ih _ this]
    omega
theorem un_lt (l : List Nat) (h : ∀ x ∈ l, x < 256) : un l < 256 ^ l.length := by
  induction l with
  | nil => simp [un]
  | cons b l ih =>
    have h1 := h b (by simp)
    have h2 := ih fun x hx => h x (by simp [hx])
    simp only [un, List.length_cons, Nat.pow_succ]
    omega
theorem le_un (l : List Nat) (h : ∀ x ∈ l, x < 256) : le l.length (un l) = l := by
  induction l with
  | nil => rfl
  | cons b l ih =>
    have h1 := h b (by simp)
    have h2 := ih fun x hx => h x (by simp [hx])
    have e1 : (b + 256 * un l) % 256 = b := by omega
    have e2 : (b + 256 * un l) / 256 = un l := by omega
    simp only [List.length_cons, le, un, e1, e2, h2]
theorem un_append (l m : List Nat) : un (l ++ m) = un l + 256 ^ l.length * un m := by
  induction l with
  | nil => simp [un]
  | cons b l ih =>
    simp only [List.cons_append, un, ih, List.length_cons, Nat.pow_succ]
    rw [Nat.mul_add, ← Nat.mul_assoc, Nat.mul_comm 256 (256 ^ l.length)]
    omega
theorem un_snoc (l : List Nat) (b : Nat) : un (l ++ [b]) = un l + 256 ^ l.length * b := by rw [un_append]; simp [un]

/-- bytes laid over others, from a place on -/
def lays : List Nat → Nat → List Nat → List Nat
  | L, _, [] => L
  | L, o, b :: l => lays (L.set o b) (o + 1) l
theorem lays_length (L : List Nat) (o : Nat) (l : List Nat) : (lays L o l).length = L.length := by
  induction l generalizing L o with
  | nil => rfl
  | cons b l ih => simp [lays, ih]
theorem lays_append (L : List Nat) (o : Nat) (l m : List Nat) : lays L o (l ++ m) = lays (lays L o l) (o + l.length) m := by
  induction l generalizing L o with
  | nil => simp [lays]
  | cons b l ih =>
    simp only [List.cons_append, lays, ih, List.length_cons]
    congr 1
    omega
theorem lays_snoc (L : List Nat) (o : Nat) (l : List Nat) (b : Nat) : lays L o (l ++ [b]) = (lays L o l).set (o + l.length) b := by
  rw [lays_append]; rfl
theorem lays_cons (x : Nat) (L : List Nat) (o : Nat) (l : List Nat) : lays (x :: L) (o + 1) l = x :: lays L o l := by
  induction l generalizing L o with
  | nil => rfl
  | cons b l ih => simp only [lays, List.set_cons_succ, ih]
theorem lays_zero (L l : List Nat) (h : l.length ≤ L.length) : lays L 0 l = l ++ L.drop l.length := by
  induction l generalizing L with
  | nil => simp [lays]
  | cons b l ih =>
    cases L with
    | nil => simp at h
    | cons x L =>
      simp only [lays, List.set_cons_zero, lays_cons]
      rw [ih L (by simpa using h)]
      simp
theorem lays_bytes {L l : List Nat} (o : Nat) (hL : Crc.Bytes L) (hl : Crc.Bytes l) : Crc.Bytes (lays L o l) := by
  induction l generalizing L o with
  | nil => exact hL
  | cons b l ih =>
    refine ih (o + 1) (fun x hx => ?_) fun x hx => hl x (by simp [hx])
    rcases List.mem_or_eq_of_mem_set hx with h | h
    · exact hL x h
    · subst h; exact hl x (by simp)

/-- a place and its sum as bytes -/
def refB (r : Int × Nat) : List Nat := le 2 r.1.toNat ++ le 4 r.2
def refsB (rs : List (Int × Nat)) : List Nat := rs.flatMap refB
theorem refB_length (r : Int × Nat) : (refB r).length = 6 := by simp [refB, le_length]
theorem refsB_length (rs : List (Int × Nat)) : (refsB rs).length = 6 * rs.length := by
  induction rs with
  | nil => rfl
  | cons r rs ih =>
    show (refB r ++ refsB rs).length = _
    rw [List.length_append, ih, refB_length, List.length_cons]
    omega
/-- what a half of a root's block begins with -/
def head (r : Rt) : List Nat := le 6 r.ep.toNat ++ [r.rs.length] ++ refsB r.rs
theorem head_length (r : Rt) : (head r).length = 7 + 6 * r.rs.length := by simp [head, le_length, refsB_length]; omega
abbrev zeros (n : Nat) : List Nat := List.replicate n 0
def half (r : Rt) : List Nat := lays (zeros 128) 0 (head r)
def enc (r : Rt) : List Nat := half r ++ half r
theorem half_length (r : Rt) : (half r).length = 128 := by simp [half, lays_length]
theorem enc_length (r : Rt) : (enc r).length = 256 := by simp [enc, half_length]

/-- what may be -/
def badR (x : Int × Nat) : Bool := decide (x.1 < 0) || decide (6000 < x.1)
def badE (ep : Int) : Bool := decide (ep < 1) || decide (1099511627776 < ep)
/-- what is amiss: the error's place -/
def amiss (r : Rt) : Option Nat := if badE r.ep || r.rs.any badR then some 2 else if 16 < r.rs.length then some 3 else none
structure Good (r : Rt) : Prop where
  e1 : 1 ≤ r.ep
  e2 : r.ep ≤ 1099511627776
  n : r.rs.length ≤ 16
  a : ∀ x ∈ r.rs, 0 ≤ x.1 ∧ x.1 ≤ 6000
theorem good_iff (r : Rt) : amiss r = none ↔ Good r := by
  unfold amiss
  constructor
  · intro h
    split at h
    · cases h
    · rename_i h1
      split at h
      · cases h
      · rename_i h2
        simp only [Bool.or_eq_true, List.any_eq_true, not_or, not_exists, not_and, badE, badR, decide_eq_true_eq] at h1
        exact ⟨by omega, by omega, by omega, fun x hx => by have := h1.2 x hx; omega⟩
  · intro h
    have h1 : ¬ ((badE r.ep || r.rs.any badR) = true) := by
      simp only [Bool.or_eq_true, List.any_eq_true, not_or, not_exists, not_and, badE, badR, decide_eq_true_eq]
      have := h.e1; have := h.e2
      exact ⟨by omega, fun x hx => by have := h.a x hx; omega⟩
    rw [if_neg h1, if_neg (by have := h.n; omega)]
instance (r : Rt) : Decidable (Good r) := decidable_of_iff _ (good_iff r)
theorem head_bytes {r : Rt} (h : r.rs.length ≤ 16) : Crc.Bytes (head r) := by
  intro x hx
  simp only [head, List.mem_append, List.mem_singleton, refsB, List.mem_flatMap] at hx
  rcases hx with (hx | hx) | ⟨y, _, hx⟩
  · exact le_bytes _ _ x hx
  · omega
  · rcases List.mem_append.1 hx with hx | hx <;> exact le_bytes _ _ x hx
theorem zeros_bytes (n : Nat) : Crc.Bytes (zeros n) := by
  intro x hx; rw [(List.mem_replicate.1 hx).2]; decide
theorem enc_bytes {r : Rt} (h : r.rs.length ≤ 16) : Crc.Bytes (enc r) := by
  intro x hx
  rcases List.mem_append.1 hx with hx | hx <;> exact lays_bytes _ (zeros_bytes _) (head_bytes h) x hx

/-- the i-th place of bytes, and its sum -/
def refAt (l : List Nat) (i : Nat) : Int × Nat := (((un ((l.drop (7 + 6 * i)).take 2) : Nat) : Int), un ((l.drop (7 + 6 * i + 2)).take 4))
/-- what bytes say, right or not -/
def dec (l : List Nat) : Rt := ⟨((un (l.take 6) : Nat) : Int), (List.range (l.getD 6 0)).map (refAt l)⟩
/-- the root of bytes -/
def parse (l : List Nat) : Option Rt := if l.length = 256 ∧ l.getD 6 0 ≤ 16 then (if Good (dec l) ∧ enc (dec l) = l then some (dec l) else none) else none
theorem parse_some {l : List Nat} {r : Rt} (h : parse l = some r) : Good r ∧ enc r = l := by
  unfold parse at h
  split at h
  · split at h
    · rename_i h2
      cases h
      exact h2
    · cases h
  · cases h

theorem enc_eq {r : Rt} (h : r.rs.length ≤ 16) : ∃ t, enc r = head r ++ t := by
  refine ⟨(zeros 128).drop (head r).length ++ half r, ?_⟩
  unfold enc half
  rw [lays_zero _ _ (by rw [head_length]; simp; omega), List.append_assoc]
theorem refsB_at (rs : List (Int × Nat)) (t : List Nat) (i : Nat) (h : i < rs.length) : ∃ u, (refsB rs ++ t).drop (6 * i) = refB rs[i] ++ u := by
  induction rs generalizing i with
  | nil => simp at h
  | cons r rs ih =>
    have e : refsB (r :: rs) ++ t = refB r ++ (refsB rs ++ t) := by
      show (refB r ++ refsB rs) ++ t = _
      rw [List.append_assoc]
    rw [e]
    cases i with
    | zero => exact ⟨refsB rs ++ t, rfl⟩
    | succ i =>
      obtain ⟨u, hu⟩ := ih i (by simpa using h)
      refine ⟨u, ?_⟩
      rw [List.drop_append, List.drop_of_length_le (by rw [refB_length]; omega), refB_length, show 6 * (i + 1) - 6 = 6 * i by omega, hu]
      rfl
theorem dec_enc {r : Rt} (h : Good r) (hs : ∀ x ∈ r.rs, x.2 < 4294967296) : dec (enc r) = r := by
  obtain ⟨t, ht⟩ := enc_eq h.n
  have e1 : enc r = le 6 r.ep.toNat ++ ([r.rs.length] ++ (refsB r.rs ++ t)) := by
    rw [ht]; unfold head; simp
  have h6 : (enc r).getD 6 0 = r.rs.length := by
    rw [e1, List.getD_eq_getElem?_getD, List.getElem?_append_right (by rw [le_length]; omega), le_length]
    rfl
  have he : un ((enc r).take 6) = r.ep.toNat := by
    rw [e1, List.take_append_of_le_length (by rw [le_length]; omega), List.take_of_length_le (by rw [le_length]; omega)]
    exact un_le _ _ (by have := h.e2; have := h.e1; omega)
  have h7 : (enc r).drop 7 = refsB r.rs ++ t := by
    rw [e1, List.drop_append, List.drop_of_length_le (by rw [le_length]; omega), le_length]
    rfl
  have hr : ∀ i (hi : i < r.rs.length), refAt (enc r) i = r.rs[i] := by
    intro i hi
    obtain ⟨u, hu⟩ := refsB_at r.rs t i hi
    have hd : (enc r).drop (7 + 6 * i) = le 2 r.rs[i].1.toNat ++ (le 4 r.rs[i].2 ++ u) := by
      rw [← List.drop_drop, h7, hu]; unfold refB; rw [List.append_assoc]
    have hd2 : (enc r).drop (7 + 6 * i + 2) = le 4 r.rs[i].2 ++ u := by
      rw [← List.drop_drop, hd, List.drop_append, List.drop_of_length_le (by rw [le_length]; omega), le_length]
      rfl
    have ha := h.a _ (List.getElem_mem hi)
    have hb := hs _ (List.getElem_mem hi)
    unfold refAt
    rw [hd, hd2, List.take_append_of_le_length (by rw [le_length]; omega), List.take_append_of_le_length (by rw [le_length]; omega), List.take_of_length_le (by rw [le_length]; omega), List.take_of_length_le (by rw [le_length]; omega), un_le _ _ (by omega), un_le _ _ (by omega)]
    refine Prod.ext ?_ rfl
    show ((r.rs[i].1.toNat : Nat) : Int) = _
    omega
  unfold dec
  rw [h6, he]
  have e3 : (List.range r.rs.length).map (refAt (enc r)) = r.rs := by
    refine List.ext_getElem (by simp) fun i h1 h2 => ?_
    simp only [List.getElem_map, List.getElem_range]
    exact hr i h2
  rw [e3]
  cases r with
  | mk ep rs =>
    have := h.e1
    simp only at this ⊢
    congr 1
    omega
theorem parse_enc {r : Rt} (h : Good r) (hs : ∀ x ∈ r.rs, x.2 < 4294967296) : parse (enc r) = some r := by
  obtain ⟨t, ht⟩ := enc_eq h.n
  have h6 : (enc r).getD 6 0 = r.rs.length := by
    rw [ht]
    unfold head
    rw [List.append_assoc, List.append_assoc, List.getD_eq_getElem?_getD, List.getElem?_append_right (by rw [le_length]; omega), le_length]
    rfl
  unfold parse
  rw [if_pos ⟨enc_length r, by rw [h6]; exact h.n⟩, dec_enc h hs, if_pos ⟨h, rfl⟩]
/-- where a few bytes in a row differ the bytes are none -/
theorem halves_eq {r r' : Rt} (p : Nat) (h : ∀ i, ¬ (p ≤ i ∧ i < p + 4) → (enc r')[i]? = (enc r)[i]?) : half r' = half r := by
  have e1 : ∀ (q : Rt) i, i < 128 → (enc q)[i]? = (half q)[i]? ∧ (enc q)[i + 128]? = (half q)[i]? := by
    intro q i hi
    unfold enc
    constructor
    · rw [List.getElem?_append_left (by rw [half_length]; exact hi)]
    · rw [List.getElem?_append_right (by rw [half_length]; omega), half_length, Nat.add_sub_cancel]
  refine List.ext_getElem? fun i => ?_
  by_cases hi : i < 128
  · by_cases hp : p ≤ i ∧ i < p + 4
    · rw [← (e1 r' i hi).2, ← (e1 r i hi).2]
      exact h _ (by omega)
    · rw [← (e1 r' i hi).1, ← (e1 r i hi).1]
      exact h _ hp
  · rw [List.getElem?_eq_none (by rw [half_length]; omega), List.getElem?_eq_none (by rw [half_length]; omega)]
theorem enc_inj {r r' : Rt} (h : Good r) (h' : Good r') (hs : ∀ x ∈ r.rs, x.2 < 4294967296) (hs' : ∀ x ∈ r'.rs, x.2 < 4294967296) (e : enc r = enc r') : r = r' := by
  rw [← dec_enc h hs, ← dec_enc h' hs', e]
theorem refAt_sum (l : List Nat) (hl : Crc.Bytes l) (i : Nat) : (refAt l i).2 < 4294967296 := by
  unfold refAt
  have h1 := un_lt ((l.drop (7 + 6 * i + 2)).take 4) fun x hx => hl x (List.mem_of_mem_drop (List.mem_of_mem_take hx))
  have h2 : ((l.drop (7 + 6 * i + 2)).take 4).length ≤ 4 := by rw [List.length_take]; omega
  have h3 : 256 ^ ((l.drop (7 + 6 * i + 2)).take 4).length ≤ 256 ^ 4 := Nat.pow_le_pow_right (by decide) h2
  show un _ < _
  omega
end Go.Proofs.YtbjfgdahfpfgdaaGreatDoor.RootP

namespace Go.Proofs.YtbjfgdahfpfgdaaGreatDoor.Crc
open Go

theorem turned_ne {l : List Nat} {p t : Nat} (hl : p + 4 ≤ l.length) (h0 : t ≠ 0) (ht : t < 4294967296) : turned l (p : Int) t ≠ l := by
  intro e
  have hb : ∀ k, k < 4 → byteOf t k = 0 := by
    intro k hk
    have h1 := turnK_get l p t 4 (p + k)
    rw [show turnK l (p : Int) t 4 = l from e] at h1
    have hlt : p + k < l.length := by omega
    rw [List.getElem?_eq_getElem hlt] at h1
    simp only [Option.map_some] at h1
    rw [if_pos (by omega), Nat.add_sub_cancel_left] at h1
    have h2 := Option.some.inj h1
    have h3 := congrArg (· ^^^ l[p + k]) h2
    simp only [Nat.xor_self] at h3
    rw [Nat.xor_comm l[p + k] (byteOf t k), Nat.xor_assoc, Nat.xor_self, Nat.xor_zero] at h3
    exact h3.symm
  have b0 := hb 0 (by omega)
  have b1 := hb 1 (by omega)
  have b2 := hb 2 (by omega)
  have b3 := hb 3 (by omega)
  unfold byteOf at b0 b1 b2 b3
  simp only [Nat.shiftRight_eq_div_pow] at b0 b1 b2 b3
  simp at b0 b1 b2 b3
  omega
theorem turned_sum_ne {l : List Nat} (hb : Bytes l) {p t : Nat} (hl : p + 4 ≤ l.length) (h0 : t ≠ 0) (ht : t < 4294967296) : sum (turned l (p : Int) t) ≠ sum l := by
  intro e
  exact turned_ne hl h0 ht ((turned_sum hb p t).1 e).symm

/-- a block of some bytes -/
def pad (l : List Nat) : List Nat := l ++ List.replicate (256 - l.length) 0
theorem pad_length {l : List Nat} (h : l.length ≤ 256) : (pad l).length = 256 := by
  unfold pad; rw [List.length_append, List.length_replicate]; omega
theorem pad_bytes {l : List Nat} (h : Bytes l) : Bytes (pad l) := by
  intro x hx
  rcases List.mem_append.1 hx with hx | hx
  · exact h x hx
  · rw [(List.mem_replicate.1 hx).2]; decide
theorem zeros_bytes (n : Nat) : Bytes (List.replicate n 0) := by
  intro x hx
  rw [(List.mem_replicate.1 hx).2]; decide
/-- one more byte laid -/
theorem pad_set {l : List Nat} {k : Nat} (h : k < l.length) (h2 : l.length ≤ 256) : (l.take k ++ List.replicate (256 - k) 0).set k l[k] = l.take (k + 1) ++ List.replicate (256 - (k + 1)) 0 := by
  have e : List.replicate (256 - k) (0 : Nat) = 0 :: List.replicate (256 - (k + 1)) 0 := by
    rw [show 256 - k = (256 - (k + 1)) + 1 by omega, List.replicate_succ]
  have hl : (l.take k).length = k := by rw [List.length_take]; omega
  rw [e, List.set_append_right _ _ (by omega), hl, Nat.sub_self, List.set_cons_zero, List.take_succ_eq_append_getElem h, List.append_assoc]
  rfl
end Go.Proofs.YtbjfgdahfpfgdaaGreatDoor.Crc

namespace Go.Proofs.YtbjfgdahfpfgdaaGreatDoor.Mem
open Go Go.RowKit

/-- a slice's n elements, 'size' cells each, are the cells xs -/
def Row (w : World) (size : Nat) (a : Option Addr) (n cap : Nat) (xs : List Value) : Prop :=
  xs.length = n * size ∧ n ≤ cap ∧ cap ≤ maxLen ∧ (a = none → cap = 0) ∧
    ∀ j u, xs[j]? = some u → ∃ b off, a = some ⟨b, off, none⟩ ∧ w.cell? ⟨b, off + j, none⟩ = some u

/-- a fact kept from the walk -/
theorem hid {p : Prop} (h : p) : Hid p := h
theorem ret_bool {a b : Bool} (h : a = b) : Ending.returned (.bool a) = .returned (.bool b) := by rw [h]
theorem ret_int {k : IntKind} {a b : Int} (h : a = b) : Ending.returned (.int k a) = .returned (.int k b) := by rw [h]
theorem beq_cast {a b c d : Nat} (h : a = b ↔ c = d) : (((a : Int) == (b : Int)) == ((c : Int) == (d : Int))) = true := by
  by_cases e : a = b
  · have e' := h.1 e; subst e; subst e'; simp
  · have e' : ¬ c = d := fun x => e (h.2 x)
    have h1 : ((a : Int) == (b : Int)) = false := by simp; omega
    have h2 : ((c : Int) == (d : Int)) = false := by simp; omega
    rw [h1, h2]; rfl

/-- numbers of a kind as cells -/
def nums (k : IntKind) (l : List Nat) : List Value := l.map fun (x : Nat) => .int k (x : Int)

/-- a slice of numbers -/
def Nums (k : IntKind) (w : World) (a : Option Addr) (n cap : Nat) (l : List Nat) : Prop := Row w 1 a n cap (nums k l)

theorem nums_length (k : IntKind) (l : List Nat) : (nums k l).length = l.length := by simp [nums]
theorem nums_take_succ (k : IntKind) (l : List Nat) (j : Nat) (h : j < l.length) : nums k (l.take (j + 1)) = nums k (l.take j) ++ [.int k ((l[j] : Nat) : Int)] := by
  rw [List.take_succ_eq_append_getElem h]
  unfold nums
  rw [List.map_append]
  rfl
theorem nums_get {k : IntKind} {l : List Nat} {j : Nat} (h : j < l.length) : (nums k l)[j]? = some (.int k ((l[j] : Nat) : Int)) := by simp [nums, h]

theorem Row.keep {w w' : World} {size : Nat} {a : Option Addr} {n cap : Nat} {xs : List Value} (h : Row w size a n cap xs)
    (hk : ∀ b o, a = some ⟨b, o, none⟩ → b < w.heap.size → w'.heap[b]? = w.heap[b]?) : Row w' size a n cap xs := by
  obtain ⟨h1, h2, h3, h4, h5⟩ := h
  refine ⟨h1, h2, h3, h4, fun j u hj => ?_⟩
  obtain ⟨b, off, ha, hc⟩ := h5 j u hj
  refine ⟨b, off, ha, ?_⟩
  have hlt := World.block_lt_of_cell? w ⟨b, off + j, none⟩ hc
  rw [World.cell?_of_block (w := w) (hk b off ha hlt)]
  exact hc
theorem Row.below {w w' : World} {size : Nat} {a : Option Addr} {n cap : Nat} {xs : List Value} (h : Row w size a n cap xs)
    (hb : Below w.heap.size w w') : Row w' size a n cap xs := h.keep fun b _ _ hlt => hb.block b hlt
theorem Nums.below {k : IntKind} {w w' : World} {a : Option Addr} {n cap : Nat} {l : List Nat} (h : Nums k w a n cap l)
    (hb : Below w.heap.size w w') : Nums k w' a n cap l := Row.below h hb
theorem Nums.len {k : IntKind} {w : World} {a : Option Addr} {n cap : Nat} {l : List Nat} (h : Nums k w a n cap l) : l.length = n := by
  have := h.1; rw [nums_length] at this; omega
theorem Nums.bound {k : IntKind} {w : World} {a : Option Addr} {n cap : Nat} {l : List Nat} (h : Nums k w a n cap l) : n ≤ cap ∧ cap ≤ 9223372036854775807 := by
  have := h.2.2.1; unfold maxLen at this; exact ⟨h.2.1, by omega⟩
/-- an element is a cell -/
theorem Nums.at {k : IntKind} {w : World} {a : Option Addr} {n cap : Nat} {l : List Nat} (h : Nums k w a n cap l) {j : Nat} (hj : j < l.length) :
    ∃ b off, a = some ⟨b, off, none⟩ ∧ w.cell? ⟨b, off + j, none⟩ = some (.int k ((l[j] : Nat) : Int)) := h.2.2.2.2 j _ (nums_get hj)
theorem Nums.take {k : IntKind} {w : World} {a : Option Addr} {n cap : Nat} {l : List Nat} (h : Nums k w a n cap l) {m : Nat} (hm : m ≤ n) : Nums k w a m cap (l.take m) := by
  have hl := h.len
  obtain ⟨h1, h2, h3, h4, h5⟩ := h
  refine ⟨by rw [nums_length, List.length_take]; omega, by omega, h3, h4, fun j u hj => ?_⟩
  refine h5 j u ?_
  have : nums k (l.take m) = (nums k l).take m := by simp [nums, List.map_take]
  rw [this, List.getElem?_take] at hj
  split at hj
  · exact hj
  · simp at hj
theorem Nums.nil (k : IntKind) (w : World) : Nums k w none 0 0 [] := ⟨rfl, Nat.le_refl _, Nat.zero_le _, fun _ => rfl, fun j u h => by simp [nums] at h⟩

theorem Row.owned {w : World} {base : Nat} {e : TypeId} {size : Nat} {a : Option Addr} {n cap m : Nat} {xs : List Value}
    (h : w.ownsRow base e size (.slice a n cap) m xs) : n = m ∧ Row w size a n cap xs := by
  have hc := fun g hg => World.ownsRow.cells h (g := g) hg
  obtain ⟨h1, h2⟩ := h
  rcases h2 with ⟨hv, h0⟩ | ⟨g, c, cur, hv, _, hg, h3, h4, h5, h6⟩
  · cases hv
    subst h0
    have : xs = [] := by simpa using h1
    subst this
    exact ⟨rfl, by simp, Nat.le_refl _, Nat.zero_le _, fun _ => rfl, fun j u h => by simp at h⟩
  · cases hv
    refine ⟨rfl, h1, h3, h4, fun h => by simp at h, fun j u hj => ⟨g, 0, rfl, ?_⟩⟩
    have := hc g rfl j u hj
    have ea : (⟨g, 0, none⟩ : Addr).add j = ⟨g, 0 + j, none⟩ := by unfold Addr.add; split <;> simp_all
    rw [ea] at this
    exact this

theorem Row.cell {w : World} {size : Nat} {b off n cap : Nat} {xs : List Value} (h : Row w size (some ⟨b, off, none⟩) n cap xs) {j : Nat} {u : Value} (hj : xs[j]? = some u) :
    w.cell? ⟨b, off + j, none⟩ = some u := by
  obtain ⟨b', off', he, hc⟩ := h.2.2.2.2 j u hj
  cases he
  exact hc
theorem Row.one {w : World} {g : Nat} {u : Value} (h : w.cell? ⟨g, 0, none⟩ = some u) : Row w 1 (some ⟨g, 0, none⟩) 1 1 [u] := by
  refine ⟨rfl, Nat.le_refl _, by decide, fun h => by simp at h, fun j v hj => ⟨g, 0, rfl, ?_⟩⟩
  match j, hj with
  | 0, hj => simp at hj; subst hj; exact h
  | j + 1, hj => simp at hj

/-- the types of a slice: its own, its element's; a zero element, in cells and bytes -/
structure El (P : Program) (t e : TypeId) (z : Value) (size bytes : Nat) : Prop where
  ht : P.underlying t = some (.slice e)
  hi : (P.info? e).map (fun i => (i.zero, i.size, i.bytes)) = some (some z, size, bytes)
  hz : z.cells.size = size
  h0 : 0 < size

theorem nums_oneCell (k : IntKind) (l : List Nat) : ∀ u ∈ nums k l, u.oneCell' = true := by
  intro u hu
  simp only [nums, List.mem_map] at hu
  obtain ⟨x, _, rfl⟩ := hu
  rfl

/-- append to a slice of one's own, of whatever row -/
theorem wpList_app {P : Program} {t e : TypeId} {z : Value} {size bytes : Nat} (E : El P t e z size bytes) {w : World} {ops : Array Oper} {rest : List Oper} {o : Oper} {a : Act} {Q : Exit → Act → World → Prop}
    (hg : o.guard = none) (s x : Operand) (hop : o.op = .call { callee := .builtin .append, args := #[s, x], argTypes := #[t, t] })
    (base : Nat) (v : Value) (n : Nat) (xs : List Value) (hs : a.eval s = v) (hown : w.ownsRow base e size v n xs)
    (ao : Option Addr) (m c : Nat) (ys : List Value) (hx : a.eval x = .slice ao m c) (hy : Row w size ao m c ys) (h1 : ∀ u ∈ ys, u.oneCell' = true)
    (h63 : n + m ≤ maxLen) (hbytes : (n + m) * bytes ≤ 140737488355328) (hbase : base ≤ w.heap.size)
    (h : ∀ v' w', w'.ownsRow base e size v' (n + m) (xs ++ ys) → Below base w w' → w.grownBy w' v.ownBlock → wpList P ops Q rest (a.put o.dst v') w') : wpList P ops Q (o :: rest) a w := by
  obtain ⟨i, hi, hz0, hz1, hz2⟩ := info_parts E.hi
  cases ao with
  | none =>
    have hc := hy.2.2.2.1 rfl
    have hm : m = 0 := by have := hy.2.1; omega
    subst hc; subst hm
    have hys : ys = [] := List.eq_nil_of_length_eq_zero (by have := hy.1; simpa using this)
    subst hys
    refine wpList_append_own_none hg s x t hop base e i size E.ht hi v n xs hs hown hx ?_
    exact h v w (by simpa using hown) (Below.refl _ _) (World.grownBy.refl _ _)
  | some ad =>
    refine wpList_append_own w hg s x t hop base e i z size bytes E.ht hi hz0 hz1 hz2 E.hz E.h0 v n xs hs hown ad m c ys hx hy.1 ?_ h1 h63 hbytes hbase (fun v' w' h2 h3 _ => h v' w' h2 ((Below.refl _ _).grown h3 hbase fun b hb => (hown.lt b hb).1) h3)
    intro j u hj
    obtain ⟨b, off, ha, hc⟩ := hy.2.2.2.2 j u hj
    cases ha
    rw [Addr.add_lit]
    exact hc

/-- append of one element of one cell, laid in a new block -/
theorem wpList_push {P : Program} {t e : TypeId} {z : Value} {bytes : Nat} (E : El P t e z 1 bytes) {w : World} {ops : Array Oper} {rest : List Oper} {o : Oper} {a : Act} {Q : Exit → Act → World → Prop}
    (hg : o.guard = none) (s x : Operand) (hop : o.op = .call { callee := .builtin .append, args := #[s, x], argTypes := #[t, t] })
    (base : Nat) (v : Value) (n : Nat) (xs : List Value) (hs : a.eval s = v) (hown : w.ownsRow base e 1 v n xs)
    (g : Nat) (u : Value) (hx : a.eval x = .slice (some ⟨g, 0, none⟩) 1 1) (hc : w.cell? ⟨g, 0, none⟩ = some u) (h1 : u.oneCell' = true)
    (h63 : n + 1 ≤ maxLen) (hbytes : (n + 1) * bytes ≤ 140737488355328) (hbase : base ≤ w.heap.size)
    (h : ∀ v' w', w'.ownsRow base e 1 v' (n + 1) (xs ++ [u]) → Below base w w' → w.grownBy w' v.ownBlock → wpList P ops Q rest (a.put o.dst v') w') : wpList P ops Q (o :: rest) a w :=
  wpList_app E hg s x hop base v n xs hs hown _ 1 1 [u] hx (Row.one hc) (fun x hx => by simp at hx; subst hx; exact h1) h63 hbytes hbase h

/-- make([]T, 0, n) -/
theorem wpList_mk0 {P : Program} {t e : TypeId} {z : Value} {size bytes : Nat} (E : El P t e z size bytes) {w : World} {ops : Array Oper} {rest : List Oper} {o : Oper} {a : Act} {Q : Exit → Act → World → Prop}
    (hg : o.guard = none) (l c : Operand) (hop : o.op = Op.makeSlice t l c)
    (base : Nat) (kl kc : IntKind) (C : Int) (n : Nat) (hl : a.eval l = .int kl 0) (hc : a.eval c = .int kc C) (hC : C = (n : Int)) (b2 : bytes * n ≤ 281474976710656) (b3 : n ≤ maxLen) (b4 : base ≤ w.heap.size)
    (hK : ∀ w', w'.ownsRow base e size (.slice (some ⟨w.heap.size, 0, none⟩) 0 n) 0 [] → w.grownBy w' none → wpList P ops Q rest (a.put o.dst (.slice (some ⟨w.heap.size, 0, none⟩) 0 n)) w') :
    wpList P ops Q (o :: rest) a w := by
  obtain ⟨i, hi, hz0, hz1, hz2⟩ := info_parts E.hi
  exact wpList_make_own w hg l c t hop base e i z size E.ht hi hz0 hz1 kl kc C n hl hc hC (by rw [hz2]; exact b2) b3 b4 hK

/-- make([]T, n) -/
theorem wpList_mkn {P : Program} {t e : TypeId} {z : Value} {size bytes : Nat} (E : El P t e z size bytes) {w : World} {ops : Array Oper} {rest : List Oper} {o : Oper} {a : Act} {Q : Exit → Act → World → Prop}
    (hg : o.guard = none) (l c : Operand) (hop : o.op = Op.makeSlice t l c)
    (base : Nat) (kl kc : IntKind) (L C : Int) (n : Nat) (hl : a.eval l = .int kl L) (hc : a.eval c = .int kc C) (hL : L = (n : Int)) (hC : C = (n : Int)) (b2 : bytes * n ≤ 281474976710656) (b3 : n ≤ maxLen) (b4 : base ≤ w.heap.size)
    (hK : ∀ w', w'.ownsRow base e size (.slice (some ⟨w.heap.size, 0, none⟩) n n) n (madeCells z.cells (n * size)).toList → w.grownBy w' none → wpList P ops Q rest (a.put o.dst (.slice (some ⟨w.heap.size, 0, none⟩) n n)) w') :
    wpList P ops Q (o :: rest) a w := by
  obtain ⟨i, hi, hz0, hz1, hz2⟩ := info_parts E.hi
  exact wpList_make_full w hg l c t hop base e i z size E.ht hi hz0 hz1 kl kc L C n hl hc hL hC (by rw [hz2]; exact b2) b3 b4 hK

/-- what is owned reads on, behind what wrote elsewhere -/
theorem ownsRow_below {w w' : World} {base : Nat} {e : TypeId} {size : Nat} {v : Value} {n : Nat} {xs : List Value} (h : w.ownsRow base e size v n xs) (hb : Below w.heap.size w w') :
    w'.ownsRow base e size v n xs := h.kept (row := none) ⟨hb.os, hb.tape, hb.output, hb.size, fun k hk _ => hb.block k hk⟩ (by cases v.ownBlock <;> simp)
/-- what one owns from a base on one owns from a lower one on -/
theorem ownsRow_base {w : World} {base base' : Nat} {e : TypeId} {size : Nat} {v : Value} {n : Nat} {xs : List Value} (h : w.ownsRow base e size v n xs) (hb : base' ≤ base) :
    w.ownsRow base' e size v n xs := by
  obtain ⟨h1, h2⟩ := h
  refine ⟨h1, ?_⟩
  rcases h2 with h2 | ⟨g, cap, cur, hv, hg, r⟩
  · exact .inl h2
  · exact .inr ⟨g, cap, cur, hv, Nat.le_trans hb hg, r⟩
/-- a slice of one's own is a slice -/
theorem ownsRow_slice {w : World} {base : Nat} {e : TypeId} {size : Nat} {v : Value} {n : Nat} {xs : List Value} (h : w.ownsRow base e size v n xs) :
    ∃ a cap, v = .slice a n cap ∧ Row w size a n cap xs := by
  have h' := h
  obtain ⟨_, h2⟩ := h'
  rcases h2 with ⟨rfl, rfl⟩ | ⟨g, cap, cur, rfl, _⟩
  · exact ⟨none, 0, rfl, (Row.owned h).2⟩
  · exact ⟨_, cap, rfl, (Row.owned h).2⟩
/-- where there is an element there is a block -/
theorem own_some {w : World} {base : Nat} {e : TypeId} {size : Nat} {a : Option Addr} {n cap : Nat} {xs : List Value} (h : w.ownsRow base e size (.slice a n cap) n xs) (hn : 0 < n) :
    ∃ g, a = some ⟨g, 0, none⟩ := by
  rcases h.2 with ⟨_, h0⟩ | ⟨g, c, cur, hv, _⟩
  · omega
  · cases hv; exact ⟨g, rfl⟩
/-- a cell that a call has kept -/
theorem keep {B : Nat} {w w' : World} {b o : Nat} {v : Value} (hb : Below B w w') (h : w.cell? ⟨b, o, none⟩ = some v) (hlt : b < B) : w'.cell? ⟨b, o, none⟩ = some v := by
  rw [hb.cell (p := ⟨b, o, none⟩) hlt]; exact h
theorem kept {w w' : World} {b o : Nat} {v : Value} (hb : Below w.heap.size w w') (h : w.cell? ⟨b, o, none⟩ = some v) : w'.cell? ⟨b, o, none⟩ = some v :=
  keep hb h (World.block_lt_of_cell? w _ h)
theorem new2 (w : World) (x y : Value) (t : TypeId) : (w.alloc (.cells #[x, y] t)).cell? ⟨w.heap.size, 0, none⟩ = some x ∧ (w.alloc (.cells #[x, y] t)).cell? ⟨w.heap.size, 1, none⟩ = some y := by
  constructor <;> simp
theorem below_put {B : Nat} {a w : World} (h : Below B a w) (hB : B ≤ w.heap.size) {w' : World} (o : Obj) (k : Below (w.alloc o).heap.size (w.alloc o) w') : Below B a w' :=
  (h.alloc hB o).trans (k.mono (by simp; omega))
theorem below_growns {B : Nat} {w w' : World} (h : w.grownBy w' none) (hB : B ≤ w.heap.size) : Below B w w' :=
  (Below.refl B w).grown h hB (fun k h => by cases h)

theorem Row.fresh3 (w : World) (a b c : Value) (e : TypeId) : Row (w.alloc (.cells #[a, b, c] e)) 3 (some ⟨w.heap.size, 0, none⟩) 1 1 [a, b, c] := by
  refine ⟨rfl, Nat.le_refl _, by decide, fun h => by simp at h, fun j u hj => ⟨w.heap.size, 0, rfl, ?_⟩⟩
  rw [World.cell?_alloc_mark, Nat.zero_add]
  simpa using hj
theorem oneCell3 {a b c : Value} (ha : a.oneCell' = true) (hb : b.oneCell' = true) (hc : c.oneCell' = true) : ∀ u ∈ [a, b, c], u.oneCell' = true := by
  intro u hu
  simp at hu
  rcases hu with rfl | rfl | rfl <;> assumption
theorem Row.fresh2 (w : World) (a b : Value) (e : TypeId) : Row (w.alloc (.cells #[a, b] e)) 2 (some ⟨w.heap.size, 0, none⟩) 1 1 [a, b] := by
  refine ⟨rfl, Nat.le_refl _, by decide, fun h => by simp at h, fun j u hj => ⟨w.heap.size, 0, rfl, ?_⟩⟩
  rw [World.cell?_alloc_mark, Nat.zero_add]
  simpa using hj
theorem oneCell2 {a b : Value} (ha : a.oneCell' = true) (hb : b.oneCell' = true) : ∀ u ∈ [a, b], u.oneCell' = true := by
  intro u hu
  simp at hu
  rcases hu with rfl | rfl <;> assumption

/-- a row of numbers that one owns, at the head of block g -/
abbrev OwnN (w : World) (base : Nat) (e : TypeId) (k : IntKind) (g n cap : Nat) (l : List Nat) : Prop :=
  w.ownsRow base e 1 (.slice (some ⟨g, 0, none⟩) n cap) n (nums k l)
theorem OwnN.len {w : World} {base : Nat} {e : TypeId} {k : IntKind} {g n cap : Nat} {l : List Nat} (h : OwnN w base e k g n cap l) : l.length = n := by
  have := h.1; rw [nums_length] at this; omega
theorem OwnN.cell {w : World} {base : Nat} {e : TypeId} {k : IntKind} {g n cap : Nat} {l : List Nat} (h : OwnN w base e k g n cap l) {j : Nat} (hj : j < l.length) :
    w.cell? ⟨g, j, none⟩ = some (.int k ((l[j] : Nat) : Int)) := by
  have := h.len
  rw [World.ownsRow.cellAt h j (by omega), nums_get hj]
theorem OwnN.set {w : World} {base : Nat} {e : TypeId} {k : IntKind} {g n cap : Nat} {l : List Nat} (h : OwnN w base e k g n cap l) (j x : Nat) :
    OwnN (w.setCell ⟨g, j, none⟩ (.int k (x : Int))) base e k g n cap (l.set j x) := by
  have := (World.ownsRow.stored h j (.int k (x : Int))).1
  have e2 : nums k (l.set j x) = (nums k l).set j (.int k (x : Int)) := by simp [nums, List.map_set]
  show World.ownsRow _ _ _ _ _ _ _
  rw [e2]; exact this
theorem mod256 (x : Nat) : (((x : Int) + 1) % 256) = (((x + 1) % 256 : Nat) : Int) := by omega
theorem OwnN.nums {w : World} {base : Nat} {e : TypeId} {k : IntKind} {g n cap : Nat} {l : List Nat} (h : OwnN w base e k g n cap l) :
    Nums k w (some ⟨g, 0, none⟩) n cap l := (Row.owned h).2
theorem OwnN.lt {w : World} {base : Nat} {e : TypeId} {k : IntKind} {g n cap : Nat} {l : List Nat} (h : OwnN w base e k g n cap l) : base ≤ g ∧ g < w.heap.size :=
  World.ownsRow.lt h g rfl

/-- a block that has just been laid, read whole -/
theorem Row.fresh (w : World) (cs : Array Value) (e : TypeId) (fr : Nat × Nat) (n : Nat) (hn : n = cs.size) (hm : n ≤ maxLen) :
    Row (w.alloc (.cells cs e fr)) 1 (some ⟨w.heap.size, 0, none⟩) n n cs.toList := by
  subst hn
  refine ⟨by simp, Nat.le_refl _, hm, fun h => by simp at h, fun j u hj => ⟨w.heap.size, 0, rfl, ?_⟩⟩
  rw [World.cell?_alloc_mark, Nat.zero_add]
  simpa using hj

/-- a slice of integers that came in: nil, or a row of 'cap' cells, the numbers zs -/
def IsRow (k : IntKind) (w : World) (a : Option Addr) (len cap : Nat) (zs : List Int) : Prop :=
  (a = none ∧ len = 0 ∧ cap = 0 ∧ zs = []) ∨
  ∃ x, a = some x ∧ len ≤ cap ∧ cap ≤ maxLen ∧ zs.length = cap ∧ (∀ i, i < zs.length → w.cell? (x.add i) = some (.int k (zs.getD i 0))) ∧ ∀ n ∈ zs, (Lit.int k n).wf = true

theorem nat_of {k : IntKind} (hk : k.signed = false) {n : Int} (h : (Lit.int k n).wf = true) : 0 ≤ n ∧ n.toNat < 2 ^ k.bits := by
  simp only [Lit.wf, IntKind.min, IntKind.max, hk, Bool.and_eq_true, decide_eq_true_eq] at h
  cases k <;> simp [IntKind.signed] at hk <;> simp [IntKind.bits] at h ⊢ <;> omega

theorem int_of {n : Int} (h : (Lit.int .i64 n).wf = true) : -9223372036854775808 ≤ n ∧ n ≤ 9223372036854775807 := by
  simp [Lit.wf, IntKind.min, IntKind.max, IntKind.signed, IntKind.bits] at h
  exact h

/-- as natural numbers, where the kind has no sign -/
theorem nums_of {k : IntKind} (hk : k.signed = false) {w : World} {a : Option Addr} {len cap : Nat} {zs : List Int} (h : IsRow k w a len cap zs) :
    ∃ l : List Nat, Nums k w a len cap l ∧ ∀ x ∈ l, x < 2 ^ k.bits := by
  rcases h with ⟨rfl, rfl, rfl, rfl⟩ | ⟨x, rfl, hl, hm, hz, hc, hw⟩
  · exact ⟨[], Nums.nil k w, by simp⟩
  · refine ⟨(zs.take len).map Int.toNat, ⟨?_, hl, hm, fun h => by simp at h, fun j u hj => ?_⟩, ?_⟩
    · simp [nums]; omega
    · have hjl : j < len := by
        have := (List.getElem?_eq_some_iff.1 hj).1
        simp [nums] at this; omega
      have h1 := hc j (by omega)
      obtain ⟨b, off, spot⟩ := x
      have hs : spot = none := by
        have h0 := hc 0 (by omega)
        simpa [Addr.add] using World.cell?_spot h0
      subst hs
      refine ⟨b, off, rfl, ?_⟩
      rw [Addr.add_lit] at h1
      rw [h1]
      have hjz : j < zs.length := by omega
      have hw' := nat_of hk (hw _ (List.getElem_mem hjz))
      have hu : u = .int k (zs[j]) := by
        have h2 : (nums k ((zs.take len).map Int.toNat))[j]? = some (.int k ((zs[j].toNat : Nat) : Int)) := by
          simp [nums, hjl, hjz]
        rw [h2] at hj
        rw [← Option.some.inj hj, Int.toNat_of_nonneg hw'.1]
      rw [hu, List.getD_eq_getElem?_getD, List.getElem?_eq_getElem hjz]
      rfl
    · intro y hy
      simp only [List.mem_map] at hy
      obtain ⟨z, hz', rfl⟩ := hy
      exact (nat_of hk (hw z (List.mem_of_mem_take hz'))).2
end Go.Proofs.YtbjfgdahfpfgdaaGreatDoor.Mem

namespace Go.Proofs.YtbjfgdahfpfgdaaGreatDoor.RefW
open Go Go.RowKit Go.Proofs.YtbjfgdahfpfgdaaGreatDoor.Mem
set_option linter.unusedVariables false
set_option maxRecDepth 100000

theorem elU8 : El Tryz.prog 35 5 (.int .u8 0) 1 1 := ⟨Tryz.underlying35, by kernel_rfl, rfl, by decide⟩

theorem take_snoc (l : List Nat) (k : Nat) (h : k < l.length) : l.take (k + 1) = l.take k ++ [l[k]] := by
  rw [List.take_succ_eq_append_getElem h]
set_option maxHeartbeats 800000 in
/-- a copy of bytes -/
theorem bytes_w (a : Option Addr) (n cap : Nat) (l : List Nat) (w : World) (hr : Nums .u8 w a n cap l) (hn : n ≤ 140737488355328) :
    Calls Tryz.prog 60 #[.slice a n cap] w fun e w' => ∃ v, e = .returned v ∧ w'.ownsRow w.heap.size 5 1 v n (nums .u8 l) ∧ Below w.heap.size w w' := by
  have hbd := hr.bound
  obtain ⟨hb1, hb2⟩ := hbd
  have HL : Hid (l.length = n) := hr.len
  have HR : Hid (Nums .u8 w a n cap l) := hr
  clear hr
  go_enter Tryz.func60, Tryz.ntmps60
  go_wp2_with (at_make; refine wpList_mk0 elU8 rfl _ _ rfl w.heap.size _ _ _ n rfl rfl rfl (by omega) (by unfold maxLen; omega) (Nat.le_refl _) ?_; intro w0 hown0 hgrow0)
  have hb0 := below_growns hgrow0 (Nat.le_refl w.heap.size)
  go_loopw [3, 4] (fun v i wr => ∃ k : Nat, k ≤ n ∧ i = .int .i64 k ∧ wr.ownsRow w.heap.size 5 1 v k (nums .u8 (l.take k)) ∧ Below w.heap.size w wr) (fun _ i _ => n - (intOf i).toNat)
  case atStart => exact ⟨0, by omega, rfl, hown0, hb0⟩
  case round =>
    obtain ⟨k, hk, rfl, hown, hb⟩ := hrel
    by_cases hlt : k < n
    · have hkl : k < l.length := by rw [HL.out]; exact hlt
      obtain ⟨b, off, rfl, hc⟩ := (HR.out.below hb).at hkl
      have HS : Hid (nums .u8 (l.take (k + 1)) = nums .u8 (l.take k) ++ [.int .u8 ((l[k] : Nat) : Int)]) := nums_take_succ .u8 l k hkl
      have hz := hb.size
      generalize l[k] = c at hc HS
      clear HR hown0 hgrow0 hb0
      go_wp2_with (at_builtin; go_must (refine wpList_push elU8 rfl _ _ rfl w.heap.size u3 k _ rfl (hown.alloc _) wr.heap.size (.int .u8 (c : Int)) rfl (by simp) rfl (by unfold maxLen; omega) (by omega) (by simp; omega) ?_); intro v' w1 hown1 hb1 _)
      go_roundw
      case rel => exact ⟨k + 1, by omega, by go_num, by rw [HS.out]; exact hown1, (hb.alloc hz _).trans hb1⟩
      case measure => simp [intOf]; omega
    · obtain rfl : k = n := by omega
      have HE : Hid (l.take k = l) := List.take_of_length_le (by rw [HL.out]; exact Nat.le_refl _)
      rw [HE.out] at hown
      go_wp2
      go_ret
      exact ⟨_, rfl, hown, hb⟩


theorem made_nums (k : IntKind) (n : Nat) : (madeCells (Value.int k 0).cells (n * 1)).toList = nums k (List.replicate n 0) := by
  rw [Nat.mul_one]
  show (madeCells #[Value.int k 0] n).toList = _
  rw [toList_madeCells_one]
  simp [nums]


theorem same_of_take {l m : List Nat} {k : Nat} (hl : k = l.length) (hm : k = m.length) (h : l.take k = m.take k) : l = m := by
  rwa [List.take_of_length_le (by omega), List.take_of_length_le (by omega)] at h

set_option maxHeartbeats 1600000 in
/-- two lists of bytes held against one another -/
theorem same_w (a : Option Addr) (n cap : Nat) (l : List Nat) (b : Option Addr) (m cap' : Nat) (l' : List Nat) (w : World) (h0 : Nums .u8 w a n cap l) (h1 : Nums .u8 w b m cap' l') :
    Calls Tryz.prog 20 #[.slice a n cap, .slice b m cap'] w fun e w' => e = .returned (.bool (decide (l = l'))) ∧ Below w.heap.size w w' := by
  have hbd0 := h0.bound
  have hbd1 := h1.bound
  have HL0 := hid h0.len
  have HL1 := hid h1.len
  obtain ⟨c1, c2⟩ := hbd0
  obtain ⟨c3, c4⟩ := hbd1
  by_cases hn : n = m
  · subst hn
    go_enter Tryz.func20, Tryz.ntmps20
    go_wp2
    go_loopw [5] (fun i wr => ∃ k : Nat, k ≤ n ∧ i = .int .i64 k ∧ l.take k = l'.take k ∧ Below w.heap.size w wr) (fun i _ => n - (intOf i).toNat)
    case atStart => exact ⟨0, by omega, rfl, by simp, Below.refl _ _⟩
    case round =>
      obtain ⟨k, hk, rfl, hT, hb⟩ := hrel
      have HT := hid hT
      clear hT
      by_cases hlt : k < n
      · have hkl : k < l.length := by rw [HL0.out]; exact hlt
        have hkl' : k < l'.length := by rw [HL1.out]; exact hlt
        obtain ⟨b0, o0, rfl, hc0⟩ := (h0.below hb).at hkl
        obtain ⟨b1, o1, rfl, hc1⟩ := (h1.below hb).at hkl'
        have HS0 := hid (List.take_succ_eq_append_getElem hkl)
        have HS1 := hid (List.take_succ_eq_append_getElem hkl')
        have HE0 := hid (List.getElem?_eq_getElem hkl)
        have HE1 := hid (List.getElem?_eq_getElem hkl')
        generalize l[k] = x at hc0 HS0 HE0
        generalize l'[k] = y at hc1 HS1 HE1
        clear h0 h1
        by_cases hxy : x = y
        · subst hxy
          go_wp2
          go_quiet (fail)
          go_wp2
          go_roundw
          case rel => exact ⟨k + 1, by omega, by go_num, by rw [HS0.out, HS1.out, HT.out], below_drewN hb _⟩
          case measure => simp [intOf]; omega
        · have hne : ((x : Int) == (y : Int)) = false := by simp; omega
          go_wp2
          go_quiet (fail)
          go_wp2
          go_ret
          refine ⟨ret_bool ?_, below_drewN hb _⟩
          simp only [decide_eq_false_iff_not, Bool.false_eq, decide_eq_false_iff_not]
          intro he
          have h2 := HE0.out
          rw [he, HE1.out] at h2
          exact hxy (Option.some.inj h2).symm
      · obtain rfl : k = n := by omega
        have he : l = l' := same_of_take HL0.out.symm HL1.out.symm HT.out
        go_wp2
        go_ret
        exact ⟨ret_bool (by simp [he]), hb⟩
  · have hne : ((n : Int) != (m : Int)) = true := by rw [bne_iff_ne]; omega
    go_enter Tryz.func20, Tryz.ntmps20
    go_wp2
    go_ret
    exact ⟨ret_bool (by simp; intro h; exact hn (by rw [← HL0.out, ← HL1.out, h])), Below.refl _ _⟩

set_option maxHeartbeats 800000 in
/-- a copy of bytes by the library's own Clone -/
theorem clone_w (a : Option Addr) (n cap : Nat) (l : List Nat) (w : World) (hr : Nums .u8 w a n cap l) (hn : n ≤ 140737488355328) :
    Calls Tryz.prog 48 #[.slice a n cap] w fun e w' => ∃ v, e = .returned v ∧ w'.ownsRow w.heap.size 5 1 v n (nums .u8 l) ∧ Below w.heap.size w w' := by
  have ke := fun (w : World) (a : Option Addr) (n c : Nat) => Lib.run_eql_slice_nil (P := Tryz.prog) w 35 5 a n c 0 0 Tryz.underlying35
  cases a with
  | none =>
    have hc := hr.2.2.2.1 rfl
    have hn0 : n = 0 := by have := hr.2.1; omega
    subst hc; subst hn0
    have hl : l = [] := List.eq_nil_of_length_eq_zero hr.len
    subst hl
    go_enter Tryz.func48, Tryz.ntmps48
    go_wp2
    go_ret
    exact ⟨_, rfl, World.ownsRow_nil _ _ _ _, Below.refl _ _⟩
  | some ad =>
    go_enter Tryz.func48, Tryz.ntmps48
    go_wp2_with (at_builtin; go_must (refine wpList_app elU8 rfl _ _ rfl w.heap.size (.slice (some ⟨w.heap.size, 0, none⟩) 0 0) 0 [] rfl (World.ownsRow_made w #[] 0 (Nat.le_refl _) (by decide) rfl) (some ad) n cap (nums .u8 l) rfl (Row.below hr ((Below.refl _ _).alloc (Nat.le_refl _) _)) (nums_oneCell _ _) (by unfold maxLen; omega) (by omega) (by simp) ?_); intro v1 w1 own1 hb1 _)
    go_ret
    rw [Nat.zero_add, List.nil_append] at own1
    exact ⟨_, rfl, own1, ((Below.refl _ _).alloc (Nat.le_refl _) _).trans hb1⟩
end Go.Proofs.YtbjfgdahfpfgdaaGreatDoor.RefW

namespace Go.Proofs.YtbjfgdahfpfgdaaGreatDoor.MapsW
open Go Go.RowKit Go.Maps Go.Proofs.YtbjfgdahfpfgdaaGreatDoor.Mem
set_option linter.unusedVariables false
set_option maxRecDepth 100000

theorem law : Keyed Tryz.prog 3 := int_keyed Tryz.underlying3
theorem wfi {i : Int} (h : -9223372036854775808 ≤ i ∧ i ≤ 9223372036854775807) : (Lit.int .i64 i).wf = true := by
  simp [Lit.wf, IntKind.min, IntKind.max, IntKind.signed, IntKind.bits]; omega
theorem key {i : Int} (h : -9223372036854775808 ≤ i ∧ i ≤ 9223372036854775807) : keyOf Tryz.prog 3 (.int .i64 i) = some (.int .i64 i) := keyOf_int_mk Tryz.underlying3 (wfi h)
theorem islit (i : Int) : WideAt.IsKeyLit (.int .i64 i) := trivial
/-- an int that fits -/
abbrev Fits (i : Int) : Prop := -9223372036854775808 ≤ i ∧ i ≤ 9223372036854775807

/-- how an element that is a row reads: its block, its length, its room -/
def rowd (g n cap : Nat) : DataW Unit := .agg [.lit (.int .i64 g), .lit (.int .i64 n), .lit (.int .i64 cap)]
def rowR : Value → Option (DataW Unit × List MemPlace)
  | .slice none 0 0 => some (.nil, [])
  | .slice (some ⟨g, 0, none⟩) n cap => some (rowd g n cap, [])
  | _ => none
theorem rowR_nil {v : Value} {ps : List MemPlace} (h : rowR v = some (.nil, ps)) : v = .slice none 0 0 := by
  unfold rowR at h
  split at h
  · rfl
  · simp [rowd] at h
  · cases h
theorem rowR_row {v : Value} {g n cap : Nat} {ps : List MemPlace} (h : rowR v = some (rowd g n cap, ps)) : v = .slice (some ⟨g, 0, none⟩) n cap := by
  unfold rowR at h
  split at h
  · simp [rowd] at h
  · simp only [rowd, Option.some.injEq, Prod.mk.injEq, DataW.agg.injEq, List.cons.injEq, DataW.lit.injEq, Lit.int.injEq, true_and, and_true, Int.natCast_inj] at h
    obtain ⟨⟨rfl, rfl, rfl⟩, _⟩ := h
    rfl
  · cases h
theorem rowR_mk (g n cap : Nat) : rowR (.slice (some ⟨g, 0, none⟩) n cap) = some (rowd g n cap, []) := rfl

/-- block b of w is a map of rows of 256 bytes, one at each key at which F has one; np of them; the rows lie from base on -/
def RowMap (w : World) (base b n : Nat) (F : Int → Option (List Nat)) (np : Nat) : Prop :=
  ∃ D, w.ownsMap Tryz.prog 3 rowR b n D ∧ Maps.size D = np ∧
    ∀ i, match F i with
      | none => Maps.has D (.int .i64 i) = false
      | some l => Maps.has D (.int .i64 i) = true ∧ ∃ g cap, (∀ z, D.atKey (.int .i64 i) z = rowd g 256 cap) ∧ Nums .u8 w (some ⟨g, 0, none⟩) 256 cap l ∧ base ≤ g
/-- block b of w is a map of bools -/
def BoolMap (w : World) (b n : Nat) (F : Int → Bool) : Prop :=
  ∃ D : DataW Unit, w.ownsMap Tryz.prog 3 (plainElem Tryz.prog 4) b n D ∧ ∀ i, D.atKey (.int .i64 i) (.lit (.bool false)) = .lit (.bool (F i))

theorem zeroRow (w : World) : (zeroValue 35).run Tryz.prog w = .ok (.slice none 0 0) w := by kernel_rfl
theorem zeroBool (w : World) : (zeroValue 4).run Tryz.prog w = .ok (.bool false) w := by kernel_rfl

theorem RowMap.mono {w : World} {base base' b n n' : Nat} {F : Int → Option (List Nat)} {np : Nat} (h : RowMap w base b n F np) (hn : n ≤ n') (hb : base' ≤ base) : RowMap w base' b n' F np := by
  obtain ⟨D, h1, h2, h3⟩ := h
  refine ⟨D, h1.mono hn, h2, fun i => ?_⟩
  have := h3 i
  cases hF : F i with
  | none => rw [hF] at this; exact this
  | some l =>
    rw [hF] at this
    obtain ⟨a, g, cap, b1, b2, b3⟩ := this
    exact ⟨a, g, cap, b1, b2, by omega⟩
theorem BoolMap.mono {w : World} {b n n' : Nat} {F : Int → Bool} (h : BoolMap w b n F) (hn : n ≤ n') : BoolMap w b n' F := by
  obtain ⟨D, h1, h2⟩ := h
  exact ⟨D, h1.mono hn, h2⟩
/-- a map's block -/
theorem RowMap.block {w : World} {base b n : Nat} {F : Int → Option (List Nat)} {np : Nat} (h : RowMap w base b n F np) : ∃ es ck, w.heap[b]? = some (.map es ck) := by
  obtain ⟨D, ⟨es, ck, h1, _⟩, _⟩ := h
  exact ⟨es, ck, h1⟩
theorem BoolMap.block {w : World} {b n : Nat} {F : Int → Bool} (h : BoolMap w b n F) : ∃ es ck, w.heap[b]? = some (.map es ck) := by
  obtain ⟨D, ⟨es, ck, h1, _⟩, _⟩ := h
  exact ⟨es, ck, h1⟩

/-- what is written elsewhere: the map's block, and each block of cells but d, are as they were -/
structure Still (d : Nat) (w w' : World) (b : Nat) : Prop where
  map : w'.heap[b]? = w.heap[b]?
  cells : ∀ k c t f, k ≠ d → w.heap[k]? = some (.cells c t f) → w'.heap[k]? = w.heap[k]?
theorem ownsMap_of {H : Type} {w w' : World} {P : Program} {k : TypeId} {R : Value → Option (DataW H × List MemPlace)} {b n : Nat} {D : DataW H} (h : w.ownsMap P k R b n D) (e : w'.heap[b]? = w.heap[b]?) : w'.ownsMap P k R b n D := by
  obtain ⟨es, ck, h1, h2⟩ := h
  exact ⟨es, ck, e.trans h1, h2⟩
theorem cell_cells {w : World} {b o : Nat} {v : Value} (h : w.cell? ⟨b, o, none⟩ = some v) : ∃ c t f, w.heap[b]? = some (.cells c t f) := by
  unfold World.cell? at h
  cases hb : w.heap[b]? with
  | none => simp [hb] at h
  | some o => cases o <;> simp [hb] at h ⊢
theorem nums_of_cells {k : IntKind} {w w' : World} {g n cap : Nat} {l : List Nat} (h : Nums k w (some ⟨g, 0, none⟩) n cap l) (e : w'.heap[g]? = w.heap[g]?) : Nums k w' (some ⟨g, 0, none⟩) n cap l := by
  obtain ⟨h1, h2, h3, h4, h5⟩ := h
  refine ⟨h1, h2, h3, h4, fun j u hj => ?_⟩
  obtain ⟨b, o, he, hc⟩ := h5 j u hj
  refine ⟨b, o, he, ?_⟩
  cases he
  rw [World.cell?_of_block (w := w) e]
  exact hc
theorem nums_cells {k : IntKind} {w : World} {g n cap : Nat} {l : List Nat} (h : Nums k w (some ⟨g, 0, none⟩) n cap l) (hn : 0 < n) : ∃ c t f, w.heap[g]? = some (.cells c t f) := by
  obtain ⟨b, o, he, hc⟩ := h.at (j := 0) (by rw [h.len]; exact hn)
  cases he
  exact cell_cells hc
theorem RowMap.still {w w' : World} {d base b n : Nat} {F : Int → Option (List Nat)} {np : Nat} (h : RowMap w base b n F np) (hd : d < base) (hs : Still d w w' b) : RowMap w' base b n F np := by
  obtain ⟨D, h1, h2, h3⟩ := h
  refine ⟨D, ownsMap_of h1 hs.map, h2, fun i => ?_⟩
  have := h3 i
  cases hF : F i with
  | none => rw [hF] at this; exact this
  | some l =>
    rw [hF] at this
    obtain ⟨a, g, cap, b1, b2, b3⟩ := this
    obtain ⟨c, t, f, hc⟩ := nums_cells b2 (by decide)
    exact ⟨a, g, cap, b1, nums_of_cells b2 (hs.cells g c t f (by omega) hc), b3⟩
theorem BoolMap.still {w w' : World} {b n : Nat} {F : Int → Bool} (h : BoolMap w b n F) (e : w'.heap[b]? = w.heap[b]?) : BoolMap w' b n F := by
  obtain ⟨D, h1, h2⟩ := h
  exact ⟨D, ownsMap_of h1 e, h2⟩

/-- a new map -/
theorem RowMap.made (w : World) (base : Nat) : RowMap (w.alloc (.map #[] 0)) base w.heap.size 0 (fun _ => none) 0 :=
  ⟨.map [], World.ownsMap_made _ _ _ _, rfl, fun i => rfl⟩
theorem BoolMap.made (w : World) : BoolMap (w.alloc (.map #[] 0)) w.heap.size 0 (fun _ => false) :=
  ⟨.map [], World.ownsMap_made _ _ _ _, fun i => rfl⟩

/-- what is looked up -/
theorem RowMap.look_none {w : World} {base b n : Nat} {F : Int → Option (List Nat)} {np : Nat} (h : RowMap w base b n F np) {i : Int} (hi : Fits i) (hF : F i = none) :
    (Instr.lookup 91 (.map (some b)) (.int .i64 i) false).run Tryz.prog w = .ok (.slice none 0 0) w := by
  obtain ⟨D, h1, _, h3⟩ := h
  have := h3 i
  rw [hF] at this
  obtain ⟨v, ps, hr, hv⟩ := h1.lookup law Tryz.underlying91 (zeroRow w) (zd := .nil) (zp := []) rfl (key hi)
  rw [atKey_of_not_has this] at hv
  rw [rowR_nil hv] at hr
  exact hr
theorem RowMap.look_some {w : World} {base b n : Nat} {F : Int → Option (List Nat)} {np : Nat} (h : RowMap w base b n F np) {i : Int} (hi : Fits i) {l : List Nat} (hF : F i = some l) :
    ∃ g cap, (Instr.lookup 91 (.map (some b)) (.int .i64 i) false).run Tryz.prog w = .ok (.slice (some ⟨g, 0, none⟩) 256 cap) w ∧ Nums .u8 w (some ⟨g, 0, none⟩) 256 cap l ∧ base ≤ g := by
  obtain ⟨D, h1, _, h3⟩ := h
  have := h3 i
  rw [hF] at this
  obtain ⟨_, g, cap, b1, b2, b3⟩ := this
  obtain ⟨v, ps, hr, hv⟩ := h1.lookup law Tryz.underlying91 (zeroRow w) (zd := .nil) (zp := []) rfl (key hi)
  rw [b1] at hv
  rw [rowR_row hv] at hr
  exact ⟨g, cap, hr, b2, b3⟩
theorem BoolMap.look {w : World} {b n : Nat} {F : Int → Bool} (h : BoolMap w b n F) {i : Int} (hi : Fits i) :
    (Instr.lookup 115 (.map (some b)) (.int .i64 i) false).run Tryz.prog w = .ok (.bool (F i)) w := by
  obtain ⟨D, h1, h2⟩ := h
  obtain ⟨v, ps, hr, hv⟩ := h1.lookup law Tryz.underlying115 (zeroBool w) (zd := .lit (.bool false)) (zp := []) (plainElem_bool Tryz.underlying4 false) (key hi)
  rw [h2 i] at hv
  have : v = .bool (F i) := by
    unfold plainElem at hv
    rw [Tryz.underlying4] at hv
    cases v <;> simp at hv
    rw [hv.1]
  rw [this] at hr
  exact hr

/-- one more, or another, at a key -/
def upd {α : Type} (F : Int → α) (i : Int) (x : α) : Int → α := fun j => if j = i then x else F j
theorem upd_same {α : Type} (F : Int → α) (i : Int) (x : α) : upd F i x i = x := if_pos rfl
theorem upd_other {α : Type} (F : Int → α) {i j : Int} (x : α) (h : j ≠ i) : upd F i x j = F j := if_neg h
theorem litne {i j : Int} (h : j ≠ i) : (Lit.int .i64 j) ≠ Lit.int .i64 i := fun e => h (Lit.int.inj e).2

theorem RowMap.put {w w' : World} {base b n : Nat} {F : Int → Option (List Nat)} {np : Nat} {D : DataW Unit} {i : Int} {g cap : Nat} {l : List Nat}
    (h2 : Maps.size D = np) (h3 : ∀ i, match F i with
      | none => Maps.has D (.int .i64 i) = false
      | some l => Maps.has D (.int .i64 i) = true ∧ ∃ g cap, (∀ z, D.atKey (.int .i64 i) z = rowd g 256 cap) ∧ Nums .u8 w (some ⟨g, 0, none⟩) 256 cap l ∧ base ≤ g)
    (hT : Tidy D) (hown : w'.ownsMap Tryz.prog 3 rowR b (n + 1) (D.put (.int .i64 i) (rowd g 256 cap))) (hg : w.grownBy w' (some b)) (hb : ∃ es ck, w.heap[b]? = some (.map es ck))
    (hl : Nums .u8 w (some ⟨g, 0, none⟩) 256 cap l) (hbg : base ≤ g) : RowMap w' base b (n + 1) (upd F i (some l)) (if (F i).isSome then np else np + 1) := by
  have hk : ∀ g' cap' (l' : List Nat), Nums .u8 w (some ⟨g', 0, none⟩) 256 cap' l' → Nums .u8 w' (some ⟨g', 0, none⟩) 256 cap' l' := by
    intro g' cap' l' hn
    obtain ⟨c, t, f, hc⟩ := nums_cells hn (by decide)
    refine nums_of_cells hn (hg.block g' (Array.getElem?_eq_some_iff.1 hc).1 fun e => ?_)
    obtain ⟨es, ck, hm⟩ := hb
    rw [Option.some.inj e] at hc
    rw [hm] at hc
    cases hc
  refine ⟨_, hown, ?_, fun j => ?_⟩
  · rw [size_put hT, h2]
    have := h3 i
    cases hF : F i with
    | none => rw [hF] at this; rw [this]; rfl
    | some l' => rw [hF] at this; rw [this.1]; rfl
  · by_cases hj : j = i
    · subst hj
      rw [upd_same]
      exact ⟨has_put_same hT.isMap (islit j) _, g, cap, fun z => atKey_put_same hT.isMap (islit j) _ z, hk _ _ _ hl, hbg⟩
    · rw [upd_other _ _ hj]
      have := h3 j
      cases hF : F j with
      | none => rw [hF] at this; exact (has_put_other (litne hj) _).trans this
      | some l' =>
        rw [hF] at this
        obtain ⟨a, g', cap', b1, b2, b3⟩ := this
        exact ⟨(has_put_other (litne hj) _).trans a, g', cap', fun z => (atKey_put_other (litne hj) _ z).trans (b1 z), hk _ _ _ b2, b3⟩

/-- 'm[i] = b' -/
theorem wpList_putRow (w : World) {ops : Array Oper} {rest : List Oper} {o : Oper} {a : Act} {Q : Exit → Act → World → Prop} (hg : o.guard = none) (m x v : Operand) (hop : o.op = Op.mapUpdate 91 m x v)
    {base b n : Nat} {F : Int → Option (List Nat)} {np : Nat} (h : RowMap w base b n F np) (hn : n < 1000000) {i : Int} (hi : Fits i) {g cap : Nat} {l : List Nat} (hl : Nums .u8 w (some ⟨g, 0, none⟩) 256 cap l) (hbg : base ≤ g)
    (hm : a.eval m = .map (some b)) (hx : a.eval x = .int .i64 i) (hv : a.eval v = .slice (some ⟨g, 0, none⟩) 256 cap)
    (hK : ∀ w', RowMap w' base b (n + 1) (upd F i (some l)) (if (F i).isSome then np else np + 1) → w.grownBy w' (some b) → wpList Tryz.prog ops Q rest (a.put o.dst undef) w') : wpList Tryz.prog ops Q (o :: rest) a w := by
  have hb := h.block
  obtain ⟨D, h1, h2, h3⟩ := h
  refine wpList_mapUpdate_own w hg m x v _ hop 3 35 law Tryz.underlying91 rowR b n D hm h1 (by unfold maxLen; omega) _ _ _ hx hv (key hi) _ [] (rowR_mk g 256 cap) fun w' ho hgw => ?_
  exact hK w' (RowMap.put h2 h3 (h1.tidy law) ho hgw hb hl hbg) hgw
/-- the same as an equation on the operation's run -/
theorem RowMap.store {w : World} {base b n : Nat} {F : Int → Option (List Nat)} {np : Nat} (h : RowMap w base b n F np) (hn : n < 1000000) {i : Int} (hi : Fits i) {g cap : Nat} {l : List Nat} (hl : Nums .u8 w (some ⟨g, 0, none⟩) 256 cap l) (hbg : base ≤ g) :
    ∃ w', (Instr.mapUpdate 91 (.map (some b)) (.int .i64 i) (.slice (some ⟨g, 0, none⟩) 256 cap)).run Tryz.prog w = .ok () w' ∧ RowMap w' base b (n + 1) (upd F i (some l)) (if (F i).isSome then np else np + 1) ∧ w.grownBy w' (some b) := by
  have hb := h.block
  obtain ⟨D, h1, h2, h3⟩ := h
  obtain ⟨w', hr, ho, hgw⟩ := h1.update law Tryz.underlying91 (by unfold maxLen; omega) (key hi) (rowR_mk g 256 cap)
  exact ⟨w', hr, RowMap.put h2 h3 (h1.tidy law) ho hgw hb hl hbg, hgw⟩
theorem wpList_putBool (w : World) {ops : Array Oper} {rest : List Oper} {o : Oper} {a : Act} {Q : Exit → Act → World → Prop} (hg : o.guard = none) (m x v : Operand) (hop : o.op = Op.mapUpdate 115 m x v)
    {b n : Nat} {F : Int → Bool} (h : BoolMap w b n F) (hn : n < 1000000) {i : Int} (hi : Fits i) (y : Bool)
    (hm : a.eval m = .map (some b)) (hx : a.eval x = .int .i64 i) (hv : a.eval v = .bool y)
    (hK : ∀ w', BoolMap w' b (n + 1) (upd F i y) → w.grownBy w' (some b) → wpList Tryz.prog ops Q rest (a.put o.dst undef) w') : wpList Tryz.prog ops Q (o :: rest) a w := by
  obtain ⟨D, h1, h2⟩ := h
  refine wpList_mapUpdate_own w hg m x v _ hop 3 4 law Tryz.underlying115 _ b n D hm h1 (by unfold maxLen; omega) _ _ _ hx hv (key hi) _ [] (plainElem_bool Tryz.underlying4 y) fun w' ho hgw => ?_
  refine hK w' ⟨_, ho, fun j => ?_⟩ hgw
  by_cases hj : j = i
  · subst hj
    rw [upd_same, atKey_put_same (h1.tidy law).isMap (islit j)]
  · rw [upd_other _ _ hj, atKey_put_other (litne hj), h2]
theorem wpList_delBool (w : World) {ops : Array Oper} {rest : List Oper} {o : Oper} {a : Act} {Q : Exit → Act → World → Prop} (hg : o.guard = none) (m x : Operand) (hop : o.op = Op.call { callee := Callee.builtin Builtin.delete, args := #[m, x], argTypes := #[115, 3] })
    {b n : Nat} {F : Int → Bool} (h : BoolMap w b n F) {i : Int} (hi : Fits i)
    (hm : a.eval m = .map (some b)) (hx : a.eval x = .int .i64 i)
    (hK : ∀ w', BoolMap w' b n (upd F i false) → w.grownBy w' (some b) → wpList Tryz.prog ops Q rest (a.put o.dst (.tuple #[])) w') : wpList Tryz.prog ops Q (o :: rest) a w := by
  obtain ⟨D, h1, h2⟩ := h
  refine wpList_delete_own w hg m x _ _ hop 4 law Tryz.underlying115 _ b n D hm h1 _ _ hx (key hi) fun w' ho hgw => ?_
  refine hK w' ⟨_, ho, fun j => ?_⟩ hgw.grown
  by_cases hj : j = i
  · subst hj
    rw [upd_same, atKey_del_same]
  · rw [upd_other _ _ hj, atKey_del_other (litne hj), h2]
end Go.Proofs.YtbjfgdahfpfgdaaGreatDoor.MapsW

namespace Go.Proofs.YtbjfgdahfpfgdaaGreatDoor.PgP
open Go.Proofs.YtbjfgdahfpfgdaaGreatDoor.RootP Go.Proofs.YtbjfgdahfpfgdaaGreatDoor.MapsW
set_option linter.unusedVariables false
set_option maxRecDepth 100000

abbrev Ref := Int × Nat
/-- a page's block -/
def pblk (l : List Nat) : List Nat := Crc.pad (l.length :: l)
/-- where a page lies -/
def tref (F : Int → Option Ref) (p : Nat) : Ref := (F (p : Int)).getD (0, 0)
/-- a table's block -/
def tblk (F : Int → Option Ref) (t : Nat) : List Nat := Crc.pad ((List.range 42).flatMap fun i => refB (tref F (t * 42 + i)))
theorem pblk_length {l : List Nat} (h : l.length ≤ 255) : (pblk l).length = 256 := Crc.pad_length (by simpa using h)
theorem pblk_bytes {l : List Nat} (h : l.length ≤ 255) (hb : Crc.Bytes l) : Crc.Bytes (pblk l) :=
  Crc.pad_bytes (by intro x hx; rcases List.mem_cons.1 hx with rfl | hx; omega; exact hb x hx)
theorem trefs_length (F : Int → Option Ref) (t : Nat) : ((List.range 42).flatMap fun i => refB (tref F (t * 42 + i))).length = 252 := by
  rw [List.length_flatMap]
  simp only [refB_length]
  decide
theorem refB_bytes (r : Ref) : Crc.Bytes (refB r) := by
  intro x hx
  rcases List.mem_append.1 hx with hx | hx
  · exact le_bytes _ _ x hx
  · exact le_bytes _ _ x hx
theorem tblk_length (F : Int → Option Ref) (t : Nat) : (tblk F t).length = 256 := Crc.pad_length (by rw [trefs_length]; omega)
theorem tblk_bytes (F : Int → Option Ref) (t : Nat) : Crc.Bytes (tblk F t) :=
  Crc.pad_bytes (by intro x hx; obtain ⟨i, _, hi⟩ := List.mem_flatMap.1 hx; exact refB_bytes _ x hi)

/-- has a table a page? -/
def has (F : Int → Option Ref) (t : Nat) : Bool := (List.range 42).any fun i => (F ((t * 42 + i : Nat) : Int)).isSome
theorem has_iff {F : Int → Option Ref} {t : Nat} : has F t = true ↔ ∃ p : Nat, (F (p : Int)).isSome = true ∧ p / 42 = t := by
  unfold has
  rw [List.any_eq_true]
  constructor
  · rintro ⟨i, hi, h⟩
    have := List.mem_range.1 hi
    exact ⟨t * 42 + i, h, by omega⟩
  · rintro ⟨p, h1, h2⟩
    exact ⟨p - t * 42, List.mem_range.2 (by omega), by rw [show t * 42 + (p - t * 42) = p by omega]; exact h1⟩
/-- how many pages there are -/
def cnt {α : Type} (F : Int → Option α) : Nat := (List.range 256).countP fun (p : Nat) => (F (p : Int)).isSome
/-- how many tables -/
def tcnt (T : List Ref) : Nat := T.countP fun r => decide (r.1 ≠ 0)

/-- a store: how often it was committed, its root's places, its tables, its pages, what was changed -/
structure St where
  ep : Nat
  rs : List Ref
  tabs : List Ref
  at_ : Int → Option Ref
  now : Int → Option (List Nat)
/-- how all is to lie -/
structure Lay where
  tabs : List Ref
  at_ : Int → Option Ref
  nt : List Nat
  pg : List Nat
  free : List Nat
/-- is there a page? -/
def St.there (S : St) (p : Int) : Bool := match S.now p with
  | some l => decide (0 < l.length)
  | none => decide (0 < ((S.at_ p).getD (0, 0)).1)
/-- the blocks in use, rising -/
def used (T : List Ref) (F : Int → Option Ref) (H : Nat) : List Nat := (List.range H).filter fun (a : Nat) => decide (a < 2) || T.any (fun r => decide (r.1 = (a : Int))) || (List.range 256).any fun (p : Nat) => (F (p : Int)).any fun r => decide (r.1 = (a : Int))
def frees (T : List Ref) (F : Int → Option Ref) (H : Nat) : List Nat := (List.range H).filter fun (a : Nat) => decide (2 ≤ a) && !(used T F H).contains a
/-- a page is to lie -/
def layP (N : Int → Option (List Nat)) (x : Lay) (p : Nat) : Option Lay :=
  if (N (p : Int)).getD [] = [] then some { x with at_ := upd x.at_ p none } else
  match x.free with
  | [] => none
  | f :: fs => some { x with at_ := upd x.at_ p (some ((f : Int), 0)), pg := x.pg ++ [p], free := fs }
/-- a table is to lie -/
def layT (x : Lay) (t : Nat) : Option Lay :=
  if has x.at_ t then
    match x.free with
    | [] => none
    | f :: fs => some { x with tabs := x.tabs.set t ((f : Int), 0), nt := x.nt ++ [t], free := fs }
  else some { x with tabs := x.tabs.set t (0, 0) }
def start (S : St) (H : Nat) : Lay := ⟨S.tabs, S.at_, [], [], frees S.tabs S.at_ H⟩
def laid0 (S : St) (H : Nat) (ks ts : List Nat) : Option Lay := (ks.foldlM (layP S.now) (start S H)).bind fun x => ts.foldlM layT x
def fits (x : Lay) (H : Nat) : Bool := decide (2 + cnt x.at_ + tcnt x.tabs ≤ H / 2)
/-- the pages that were changed, rising; their tables -/
def keys (N : Int → Option (List Nat)) : List Nat := (List.range 256).filter fun (p : Nat) => (N (p : Int)).isSome
def touched (ks : List Nat) : List Nat := (List.range 7).filter fun t => ks.any fun p => decide (p / 42 = t)
def laid (S : St) (H : Nat) : Option Lay := laid0 S H (keys S.now) (touched (keys S.now))
/-- the sums of what is written -/
def sumP (N : Int → Option (List Nat)) (F : Int → Option Ref) (p : Nat) : Int → Option Ref := upd F p (some ((tref F p).1, Crc.sum (pblk ((N (p : Int)).getD []))))
def sumsP (N : Int → Option (List Nat)) (F : Int → Option Ref) (pg : List Nat) : Int → Option Ref := pg.foldl (sumP N) F
def sumT (F : Int → Option Ref) (T : List Ref) (t : Nat) : List Ref := T.set t ((T.getD t (0, 0)).1, Crc.sum (tblk F t))
def sumsT (F : Int → Option Ref) (T : List Ref) (nt : List Nat) : List Ref := nt.foldl (sumT F) T
/-- what is written, in its order -/
def wrP (N : Int → Option (List Nat)) (x : Lay) : List (Nat × List Nat) := x.pg.map fun p => ((tref x.at_ p).1.toNat, pblk ((N (p : Int)).getD []))
def wrT (F : Int → Option Ref) (x : Lay) : List (Nat × List Nat) := x.nt.map fun t => ((x.tabs.getD t (0, 0)).1.toNat, tblk F t)
/-- the store behind a commit -/
def behind (S : St) (x : Lay) : St :=
  let F := sumsP S.now x.at_ x.pg
  let T := sumsT F x.tabs x.nt
  ⟨S.ep + 1, T, T, F, fun _ => none⟩
def writes (S : St) (x : Lay) : List (Nat × List Nat) := wrP S.now x ++ wrT (sumsP S.now x.at_ x.pg) x
end Go.Proofs.YtbjfgdahfpfgdaaGreatDoor.PgP
