/- Plain facts about the sum of chapter 2: one step by a bit is linear and one-to-one on words of 32 bits; so are many. No program stands here. -/
namespace Go.Proofs.Ytdgbgdkfoeoppaa.Crc

def P : Nat := 2197175160
def W : Nat := 4294967296
/-- one bit's step -/
def bit (n : Nat) : Nat := if n % 2 = 1 then n / 2 ^^^ P else n / 2
/-- k bits' steps -/
def bits : Nat → Nat → Nat
  | 0, n => n
  | k + 1, n => bits k (bit n)
/-- a byte's step -/
def step (n : Nat) : Nat := bits 8 n
/-- the words that come of bytes -/
def run : Nat → List Nat → Nat
  | s, [] => s
  | s, c :: l => run (step (s ^^^ c)) l
/-- the sum -/
def sum (l : List Nat) : Nat := run (W - 1) l ^^^ (W - 1)

theorem xor_lt {a b : Nat} (ha : a < W) (hb : b < W) : a ^^^ b < W := Nat.xor_lt_two_pow (n := 32) ha hb
theorem xor_div (a b : Nat) : (a ^^^ b) / 2 = a / 2 ^^^ b / 2 := by
  have := Nat.shiftRight_xor_distrib (a := a) (b := b) (i := 1)
  simpa [Nat.shiftRight_succ] using this
theorem xor_mod (a b : Nat) : (a ^^^ b) % 2 = (a % 2 + b % 2) % 2 := by
  have := Nat.xor_mod_two_eq_one (a := a) (b := b)
  omega

theorem bit_lt {n : Nat} (h : n < W) : bit n < W := by
  unfold bit
  split
  · exact xor_lt (by simp only [W] at *; omega) (by decide)
  · simp only [W] at *; omega
theorem bit_xor (a b : Nat) : bit (a ^^^ b) = bit a ^^^ bit b := by
  unfold bit
  rw [xor_div, xor_mod]
  rcases Nat.mod_two_eq_zero_or_one a with ha | ha <;> rcases Nat.mod_two_eq_zero_or_one b with hb | hb <;> simp only [ha, hb]
  · simp
  · simp [Nat.xor_assoc]
  · simp only [if_true, show (0 : Nat) ≠ 1 by omega, if_false]
    rw [Nat.xor_assoc, Nat.xor_comm (b / 2), ← Nat.xor_assoc]
  · simp only [show (1 + 1) % 2 = 0 from rfl, show (0 : Nat) ≠ 1 by omega, if_false, if_true]
    rw [Nat.xor_assoc, Nat.xor_comm P, Nat.xor_assoc, Nat.xor_self, Nat.xor_zero]
theorem bit_zero : bit 0 = 0 := by decide
theorem bit_eq_zero {n : Nat} (h : n < W) (hb : bit n = 0) : n = 0 := by
  unfold bit at hb
  split at hb
  · have h1 : n / 2 = P := by
      have := congrArg (· ^^^ P) hb
      simpa [Nat.xor_assoc] using this
    simp only [W, P] at *; omega
  · omega
theorem bits_lt (k : Nat) : ∀ {n : Nat}, n < W → bits k n < W := by
  induction k with
  | zero => intro n h; exact h
  | succ k ih => intro n h; exact ih (bit_lt h)
theorem bits_xor (k : Nat) : ∀ a b, bits k (a ^^^ b) = bits k a ^^^ bits k b := by
  induction k with
  | zero => intro a b; rfl
  | succ k ih => intro a b; simp only [bits, bit_xor, ih]
theorem bits_zero (k : Nat) : bits k 0 = 0 := by
  induction k with
  | zero => rfl
  | succ k ih => simp only [bits, bit_zero, ih]
theorem bits_eq_zero (k : Nat) : ∀ {n : Nat}, n < W → bits k n = 0 → n = 0 := by
  induction k with
  | zero => intro n _ h; exact h
  | succ k ih => intro n h hb; exact bit_eq_zero h (ih (bit_lt h) hb)
theorem bits_add (j k n : Nat) : bits (j + k) n = bits k (bits j n) := by
  induction j generalizing n with
  | zero => simp [bits]
  | succ j ih => rw [Nat.add_right_comm]; simp only [bits, ih]
theorem bits_snoc (k n : Nat) : bits (k + 1) n = bit (bits k n) := by rw [bits_add]; rfl
/-- bits that stand high enough are only moved -/
theorem bits_high (k : Nat) : ∀ n, bits k (n * 2 ^ k) = n := by
  induction k with
  | zero => intro n; simp [bits]
  | succ k ih =>
    intro n
    have h2 : n * 2 ^ (k + 1) = 2 * (n * 2 ^ k) := by rw [Nat.pow_succ, ← Nat.mul_assoc, Nat.mul_comm]
    have : bit (n * 2 ^ (k + 1)) = n * 2 ^ k := by
      rw [h2]; unfold bit
      rw [if_neg (by omega)]
      omega
    simp only [bits, this, ih]
theorem step_lt {n : Nat} (h : n < W) : step n < W := bits_lt 8 h
theorem step_xor (a b : Nat) : step (a ^^^ b) = step a ^^^ step b := bits_xor 8 a b
theorem step_inj {a b : Nat} (ha : a < W) (hb : b < W) (h : step a = step b) : a = b := by
  have h1 : step (a ^^^ b) = 0 := by rw [step_xor, h, Nat.xor_self]
  have h2 := bits_eq_zero 8 (xor_lt ha hb) h1
  have := congrArg (· ^^^ b) h2
  simpa [Nat.xor_assoc] using this

def Bytes (l : List Nat) : Prop := ∀ x ∈ l, x < 256
theorem Bytes.head {c : Nat} {l : List Nat} (h : Bytes (c :: l)) : c < 256 := h c (by simp)
theorem Bytes.tail {c : Nat} {l : List Nat} (h : Bytes (c :: l)) : Bytes l := fun x hx => h x (by simp [hx])
theorem byte_lt {c : Nat} (h : c < 256) : c < W := by simp only [W]; omega

theorem run_lt (l : List Nat) : ∀ {s : Nat}, s < W → Bytes l → run s l < W := by
  induction l with
  | nil => intro s h _; exact h
  | cons c l ih => intro s h hb; exact ih (step_lt (xor_lt h (byte_lt hb.head))) hb.tail
theorem run_append (a b : List Nat) : ∀ s, run s (a ++ b) = run (run s a) b := by
  induction a with
  | nil => intro s; rfl
  | cons c l ih => intro s; exact ih _
theorem run_snoc (a : List Nat) (c s : Nat) : run s (a ++ [c]) = step (run s a ^^^ c) := run_append a [c] s
theorem run_inj (l : List Nat) : ∀ {s t : Nat}, s < W → t < W → Bytes l → run s l = run t l → s = t := by
  induction l with
  | nil => intro s t _ _ _ h; exact h
  | cons c l ih =>
    intro s t hs ht hb h
    have hc := byte_lt hb.head
    have h1 := step_inj (xor_lt hs hc) (xor_lt ht hc) (ih (step_lt (xor_lt hs hc)) (step_lt (xor_lt ht hc)) hb.tail h)
    have := congrArg (· ^^^ c) h1
    simpa [Nat.xor_assoc] using this
/-- what turns two lists into one another turns their words into one another -/
def turn : List Nat → List Nat → List Nat
  | a :: l, b :: m => (a ^^^ b) :: turn l m
  | _, _ => []
theorem run_xor (a : List Nat) : ∀ (b : List Nat) (s t : Nat), a.length = b.length → run s a ^^^ run t b = run (s ^^^ t) (turn a b) := by
  induction a with
  | nil =>
    intro b s t h
    obtain rfl : b = [] := by cases b; rfl; simp at h
    rfl
  | cons x l ih =>
    intro b s t h
    cases b with
    | nil => simp at h
    | cons y m =>
      have e : s ^^^ x ^^^ (t ^^^ y) = s ^^^ t ^^^ (x ^^^ y) := by
        rw [Nat.xor_assoc, ← Nat.xor_assoc x, Nat.xor_comm x, Nat.xor_assoc t, ← Nat.xor_assoc s]
      show run (step (s ^^^ x)) l ^^^ run (step (t ^^^ y)) m = run (step (s ^^^ t ^^^ (x ^^^ y))) (turn l m)
      rw [ih m (step (s ^^^ x)) (step (t ^^^ y)) (by simpa using h), ← step_xor, e]

theorem top_lt : W - 1 < W := by decide
theorem sum_lt {l : List Nat} (h : Bytes l) : sum l < W := by
  unfold sum
  exact xor_lt (run_lt l top_lt h) top_lt
theorem sum_inj {a b : List Nat} (h : sum a = sum b) : run (W - 1) a = run (W - 1) b := by
  have := congrArg (· ^^^ (W - 1)) h
  simpa [sum, Nat.xor_assoc] using this
theorem sum_nil : sum [] = 0 := by decide

/-- one byte that differs -/
theorem sum_one (a b : List Nat) (x y : Nat) (ha : Bytes a) (hb : Bytes b) (hx : x < 256) (hy : y < 256) :
    (sum (a ++ x :: b) = sum (a ++ y :: b)) ↔ x = y := by
  constructor
  · intro h
    have h1 := sum_inj h
    rw [run_append, run_append] at h1
    have hr := run_lt a (s := W - 1) (by decide) ha
    have h2 := run_inj b (step_lt (xor_lt hr (byte_lt hx))) (step_lt (xor_lt hr (byte_lt hy))) hb h1
    have h3 := step_inj (xor_lt hr (byte_lt hx)) (xor_lt hr (byte_lt hy)) h2
    have := congrArg (run (W - 1) a ^^^ ·) h3
    simpa [← Nat.xor_assoc] using this
  · rintro rfl; rfl
end Go.Proofs.Ytdgbgdkfoeoppaa.Crc
