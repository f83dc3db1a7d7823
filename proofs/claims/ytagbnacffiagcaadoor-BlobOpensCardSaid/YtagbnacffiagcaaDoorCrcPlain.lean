/- Plain facts about the sum of chapter 2: one step by a bit is linear and one-to-one on words of 32 bits; so are many. No program stands here. -/
namespace Go.Proofs.YtagbnacffiagcaaDoor.Crc

def P : Nat := 2197175160
def W : Nat := 4294967296
/-- one bit's step -/
def bit (n : Nat) : Nat := if n % 2 = 1 then n / 2 ^^^ P else n / 2
/-- k bits' steps -/
def bits : Nat → Nat → Nat
  | 0, n => n
  | k + 1, n => bits k (bit n)
/-- a byte's step -/
def step (n : Nat) : Nat := bits 8 n
theorem step_def (n : Nat) : step n = bits 8 n := rfl
attribute [irreducible] step
/-- the words that come of bytes -/
def run : Nat → List Nat → Nat
  | s, [] => s
  | s, c :: l => run (step (s ^^^ c)) l
/-- the sum -/
def sum (l : List Nat) : Nat := run (W - 1) l ^^^ (W - 1)

theorem xor_lt {a b : Nat} (ha : a < W) (hb : b < W) : a ^^^ b < W := Nat.xor_lt_two_pow (n := 32) ha hb
theorem xor_div (a b : Nat) : (a ^^^ b) / 2 = a / 2 ^^^ b / 2 := by
  have := Nat.shiftRight_xor_distrib (a := a) (b := b) (i := 1)
  simpa [Nat.shiftRight_succ] using this
theorem xor_mod (a b : Nat) : (a ^^^ b) % 2 = (a % 2 + b % 2) % 2 := by
  have := Nat.xor_mod_two_eq_one (a := a) (b := b)
  omega

theorem bit_lt {n : Nat} (h : n < W) : bit n < W := by
  unfold bit
  split
  · exact xor_lt (by simp only [W] at *; omega) (by decide)
  · simp only [W] at *; omega
theorem bit_xor (a b : Nat) : bit (a ^^^ b) = bit a ^^^ bit b := by
  unfold bit
  rw [xor_div, xor_mod]
  rcases Nat.mod_two_eq_zero_or_one a with ha | ha <;> rcases Nat.mod_two_eq_zero_or_one b with hb | hb <;> simp only [ha, hb]
  · simp
  · simp [Nat.xor_assoc]
  · simp only [if_true, show (0 : Nat) ≠ 1 by omega, if_false]
    rw [Nat.xor_assoc, Nat.xor_comm (b / 2), ← Nat.xor_assoc]
  · simp only [show (1 + 1) % 2 = 0 from rfl, show (0 : Nat) ≠ 1 by omega, if_false, if_true]
    rw [Nat.xor_assoc, Nat.xor_comm P, Nat.xor_assoc, Nat.xor_self, Nat.xor_zero]
theorem bit_zero : bit 0 = 0 := by decide
theorem bit_eq_zero {n : Nat} (h : n < W) (hb : bit n = 0) : n = 0 := by
  unfold bit at hb
  split at hb
  · have h1 : n / 2 = P := by
      have := congrArg (· ^^^ P) hb
      simpa [Nat.xor_assoc] using this
    simp only [W, P] at *; omega
  · omega
theorem bits_lt (k : Nat) : ∀ {n : Nat}, n < W → bits k n < W := by
  induction k with
  | zero => intro n h; exact h
  | succ k ih => intro n h; exact ih (bit_lt h)
theorem bits_xor (k : Nat) : ∀ a b, bits k (a ^^^ b) = bits k a ^^^ bits k b := by
  induction k with
  | zero => intro a b; rfl
  | succ k ih => intro a b; simp only [bits, bit_xor, ih]
theorem bits_zero (k : Nat) : bits k 0 = 0 := by
  induction k with
  | zero => rfl
  | succ k ih => simp only [bits, bit_zero, ih]
theorem bits_eq_zero (k : Nat) : ∀ {n : Nat}, n < W → bits k n = 0 → n = 0 := by
  induction k with
  | zero => intro n _ h; exact h
  | succ k ih => intro n h hb; exact bit_eq_zero h (ih (bit_lt h) hb)
theorem bits_add (j k n : Nat) : bits (j + k) n = bits k (bits j n) := by
  induction j generalizing n with
  | zero => simp [bits]
  | succ j ih => rw [Nat.add_right_comm]; simp only [bits, ih]
theorem bits_snoc (k n : Nat) : bits (k + 1) n = bit (bits k n) := by rw [bits_add]; rfl
/-- bits that stand high enough are only moved -/
theorem bits_high (k : Nat) : ∀ n, bits k (n * 2 ^ k) = n := by
  induction k with
  | zero => intro n; simp [bits]
  | succ k ih =>
    intro n
    have h2 : n * 2 ^ (k + 1) = 2 * (n * 2 ^ k) := by rw [Nat.pow_succ, ← Nat.mul_assoc, Nat.mul_comm]
    have : bit (n * 2 ^ (k + 1)) = n * 2 ^ k := by
      rw [h2]; unfold bit
      rw [if_neg (by omega)]
      omega
    simp only [bits, this, ih]
theorem step_lt {n : Nat} (h : n < W) : step n < W := by rw [step_def]; exact bits_lt 8 h
theorem step_xor (a b : Nat) : step (a ^^^ b) = step a ^^^ step b := by rw [step_def, step_def, step_def]; exact bits_xor 8 a b
theorem step_inj {a b : Nat} (ha : a < W) (hb : b < W) (h : step a = step b) : a = b := by
  have h1 : step (a ^^^ b) = 0 := by rw [step_xor, h, Nat.xor_self]
  rw [step_def] at h1
  have h2 := bits_eq_zero 8 (xor_lt ha hb) h1
  have := congrArg (· ^^^ b) h2
  simpa [Nat.xor_assoc] using this

def Bytes (l : List Nat) : Prop := ∀ x ∈ l, x < 256
theorem Bytes.head {c : Nat} {l : List Nat} (h : Bytes (c :: l)) : c < 256 := h c (by simp)
theorem Bytes.tail {c : Nat} {l : List Nat} (h : Bytes (c :: l)) : Bytes l := fun x hx => h x (by simp [hx])
theorem byte_lt {c : Nat} (h : c < 256) : c < W := by simp only [W]; omega

theorem run_lt (l : List Nat) : ∀ {s : Nat}, s < W → Bytes l → run s l < W := by
  induction l with
  | nil => intro s h _; exact h
  | cons c l ih => intro s h hb; exact ih (step_lt (xor_lt h (byte_lt hb.head))) hb.tail
theorem run_append (a b : List Nat) : ∀ s, run s (a ++ b) = run (run s a) b := by
  induction a with
  | nil => intro s; rfl
  | cons c l ih => intro s; exact ih _
theorem run_snoc (a : List Nat) (c s : Nat) : run s (a ++ [c]) = step (run s a ^^^ c) := run_append a [c] s
theorem run_inj (l : List Nat) : ∀ {s t : Nat}, s < W → t < W → Bytes l → run s l = run t l → s = t := by
  induction l with
  | nil => intro s t _ _ _ h; exact h
  | cons c l ih =>
    intro s t hs ht hb h
    have hc := byte_lt hb.head
    have h1 := step_inj (xor_lt hs hc) (xor_lt ht hc) (ih (step_lt (xor_lt hs hc)) (step_lt (xor_lt ht hc)) hb.tail h)
    have := congrArg (· ^^^ c) h1
    simpa [Nat.xor_assoc] using this
/-- what turns two lists into one another turns their words into one another -/
def turn : List Nat → List Nat → List Nat
  | a :: l, b :: m => (a ^^^ b) :: turn l m
  | _, _ => []
theorem run_xor (a : List Nat) : ∀ (b : List Nat) (s t : Nat), a.length = b.length → run s a ^^^ run t b = run (s ^^^ t) (turn a b) := by
  induction a with
  | nil =>
    intro b s t h
    obtain rfl : b = [] := by cases b; rfl; simp at h
    rfl
  | cons x l ih =>
    intro b s t h
    cases b with
    | nil => simp at h
    | cons y m =>
      have e : s ^^^ x ^^^ (t ^^^ y) = s ^^^ t ^^^ (x ^^^ y) := by
        rw [Nat.xor_assoc, ← Nat.xor_assoc x, Nat.xor_comm x, Nat.xor_assoc t, ← Nat.xor_assoc s]
      show run (step (s ^^^ x)) l ^^^ run (step (t ^^^ y)) m = run (step (s ^^^ t ^^^ (x ^^^ y))) (turn l m)
      rw [ih m (step (s ^^^ x)) (step (t ^^^ y)) (by simpa using h), ← step_xor, e]

theorem top_lt : W - 1 < W := by decide
theorem sum_lt {l : List Nat} (h : Bytes l) : sum l < W := by
  unfold sum
  exact xor_lt (run_lt l top_lt h) top_lt
theorem sum_inj {a b : List Nat} (h : sum a = sum b) : run (W - 1) a = run (W - 1) b := by
  have := congrArg (· ^^^ (W - 1)) h
  simpa [sum, Nat.xor_assoc] using this
theorem sum_nil : sum [] = 0 := by decide

/-- one byte that differs -/
theorem sum_one (a b : List Nat) (x y : Nat) (ha : Bytes a) (hb : Bytes b) (hx : x < 256) (hy : y < 256) :
    (sum (a ++ x :: b) = sum (a ++ y :: b)) ↔ x = y := by
  constructor
  · intro h
    have h1 := sum_inj h
    rw [run_append, run_append] at h1
    have hr := run_lt a (s := W - 1) (by decide) ha
    have h2 := run_inj b (step_lt (xor_lt hr (byte_lt hx))) (step_lt (xor_lt hr (byte_lt hy))) hb h1
    have h3 := step_inj (xor_lt hr (byte_lt hx)) (xor_lt hr (byte_lt hy)) h2
    have := congrArg (run (W - 1) a ^^^ ·) h3
    simpa [← Nat.xor_assoc] using this
  · rintro rfl; rfl

/-- the table -/
def tab (k : Nat) : List Nat := (List.range 256).map fun i => if i < k then step i else 0
theorem tab_length (k : Nat) : (tab k).length = 256 := by simp [tab]
theorem tab_get (k i : Nat) (h : i < 256) : (tab k)[i]? = some (if i < k then step i else 0) := by simp [tab, h]
theorem tab_zero : tab 0 = List.replicate 256 0 := by
  apply List.ext_getElem?
  intro i
  by_cases h : i < 256
  · rw [tab_get 0 i h, List.getElem?_replicate, if_pos h, if_neg (by omega)]
  · rw [List.getElem?_eq_none (by rw [tab_length]; omega), List.getElem?_replicate, if_neg h]
theorem tab_set (k : Nat) (_h : k < 256) : (tab k).set k (step k) = tab (k + 1) := by
  apply List.ext_getElem?
  intro i
  by_cases hi : i < 256
  · rw [tab_get _ i hi, List.getElem?_set, tab_length]
    by_cases e : k = i
    · subst e; simp [hi]
    · rw [if_neg e, tab_get _ i hi]
      by_cases h2 : i < k
      · rw [if_pos h2, if_pos (by omega)]
      · rw [if_neg h2, if_neg (by omega)]
  · rw [List.getElem?_eq_none (by simp [tab_length]; omega), List.getElem?_eq_none (by rw [tab_length]; omega)]

/-- byte i of a word -/
def byteOf (t i : Nat) : Nat := (t >>> (8 * i)) % 256
/-- one byte turned -/
def turn1 (l : List Nat) (at_ : Int) (t i : Nat) : List Nat :=
  if 0 ≤ at_ ∧ at_ < (l.length : Int) - i then l.set (at_.toNat + i) (l.getD (at_.toNat + i) 0 ^^^ byteOf t i) else l
/-- the first k bytes turned -/
def turnK (l : List Nat) (at_ : Int) (t : Nat) : Nat → List Nat
  | 0 => l
  | k + 1 => turn1 (turnK l at_ t k) at_ t k
def turned (l : List Nat) (at_ : Int) (t : Nat) : List Nat := turnK l at_ t 4
theorem turn1_length (l : List Nat) (at_ : Int) (t i : Nat) : (turn1 l at_ t i).length = l.length := by
  unfold turn1; split <;> simp
theorem turnK_length (l : List Nat) (at_ : Int) (t k : Nat) : (turnK l at_ t k).length = l.length := by
  induction k with
  | zero => rfl
  | succ k ih => rw [turnK, turn1_length, ih]
theorem byteOf_lt (t i : Nat) : byteOf t i < 256 := Nat.mod_lt _ (by decide)
theorem xor_byte {a b : Nat} (ha : a < 256) (hb : b < 256) : a ^^^ b < 256 := Nat.xor_lt_two_pow (n := 8) ha hb
theorem turn1_bytes {l : List Nat} (h : Bytes l) (at_ : Int) (t i : Nat) : Bytes (turn1 l at_ t i) := by
  unfold turn1
  split
  · rename_i hc
    intro x hx
    rcases List.mem_or_eq_of_mem_set hx with h1 | h1
    · exact h x h1
    · subst h1
      refine xor_byte ?_ (byteOf_lt _ _)
      have hj : at_.toNat + i < l.length := by omega
      rw [List.getD_eq_getElem?_getD, List.getElem?_eq_getElem hj]
      exact h _ (List.getElem_mem hj)
  · exact h
theorem turnK_bytes {l : List Nat} (h : Bytes l) (at_ : Int) (t k : Nat) : Bytes (turnK l at_ t k) := by
  induction k with
  | zero => exact h
  | succ k ih => exact turn1_bytes ih _ _ _

/-- a word of the table, and what is above the lowest byte -/
theorem step_tab (s c : Nat) : step (s ^^^ c) = step ((s % 256) ^^^ c) ^^^ s / 256 := by
  have h1 : s = (s % 256) ^^^ (s / 256 * 256) := by
    have := Nat.two_pow_add_eq_or_of_lt (i := 8) (b := s % 256) (Nat.mod_lt _ (by decide)) (s / 256)
    have h2 : (s / 256 * 256) ^^^ (s % 256) = s / 256 * 256 + s % 256 := by
      apply Nat.eq_of_testBit_eq
      intro i
      have h3 : s / 256 * 256 + s % 256 = 2 ^ 8 * (s / 256) + s % 256 := congrArg (· + s % 256) (Nat.mul_comm _ _)
      rw [h3, this, Nat.testBit_xor, Nat.testBit_or]
      have h4 : s / 256 * 256 = 2 ^ 8 * (s / 256) := Nat.mul_comm _ _
      rw [h4, Nat.testBit_two_pow_mul]
      by_cases hi : 8 ≤ i
      · have : (s % 256).testBit i = false := by
          apply Nat.testBit_lt_two_pow
          exact Nat.lt_of_lt_of_le (Nat.mod_lt _ (by decide)) (Nat.pow_le_pow_right (n := 2) (by decide) hi)
        simp [this]
      · simp [hi]
    rw [Nat.xor_comm, h2]; omega
  have h5 : s ^^^ c = ((s % 256) ^^^ c) ^^^ (s / 256 * 256) := by
    rw [Nat.xor_assoc, Nat.xor_comm c, ← Nat.xor_assoc, ← h1]
  have h6 : step (s / 256 * 256) = s / 256 := by rw [step_def]; exact bits_high 8 (s / 256)
  rw [h5, step_xor, h6]

/-- words of the table -/
theorem tab_at {i : Nat} (h : i < 256) : (tab 256)[i]? = some (step i) := by rw [tab_get _ _ h, if_pos h]
theorem step_eq {i j : Nat} (hi : i < 256) (hj : j < 256) : step i = step j ↔ i = j :=
  ⟨fun h => step_inj (byte_lt hi) (byte_lt hj) h, fun h => by rw [h]⟩
end Go.Proofs.YtagbnacffiagcaaDoor.Crc
