/- Numbers as bytes (chapter 1), plainly. No program stands here. -/
import Derived.Test.YtdgbgdkfoeoppaaDoorMem
import Derived.Laws.BitsLemmas
import Derived.Laws.Bits64
namespace Go.Proofs.YtdgbgdkfoeoppaaDoor.Wire
open Go Go.Proofs.YtdgbgdkfoeoppaaDoor.Mem
set_option maxRecDepth 100000

/-- a number as one without a sign -/
def zig (n : Int) : Nat := if 0 ≤ n then (2 * n).toNat else (-2 * n - 1).toNat
def zag (z : Nat) : Int := if z % 2 = 0 then ((z / 2 : Nat) : Int) else -((z / 2 : Nat) : Int) - 1
theorem zag_zig (n : Int) : zag (zig n) = n := by
  unfold zag zig
  split <;> split <;> omega
theorem zig_zag (z : Nat) : zig (zag z) = z := by
  unfold zag zig
  split <;> split <;> omega
theorem zig_lt {n : Int} (h : -9223372036854775808 ≤ n ∧ n ≤ 9223372036854775807) : zig n < 18446744073709551616 := by
  unfold zig
  split <;> omega
theorem zag_in {z : Nat} (h : z < 18446744073709551616) : -9223372036854775808 ≤ zag z ∧ zag z ≤ 9223372036854775807 := by
  unfold zag
  split <;> omega
theorem zig_inj {n m : Int} (h : zig n = zig m) : n = m := by rw [← zag_zig n, h, zag_zig]

/-- its bytes -/
def enc (z : Nat) : List Nat := if h : z < 128 then [z] else (z % 128 + 128) :: enc (z / 128)
termination_by z
theorem enc_lt {z : Nat} (h : z < 128) : enc z = [z] := by rw [enc, dif_pos h]
theorem enc_ge {z : Nat} (h : ¬ z < 128) : enc z = (z % 128 + 128) :: enc (z / 128) := by rw [enc, dif_neg h]
theorem enc_byte (z : Nat) : ∀ x ∈ enc z, x < 256 := by
  induction z using Nat.strongRecOn with
  | ind z ih =>
    intro x hx
    by_cases h : z < 128
    · rw [enc_lt h] at hx
      simp at hx; omega
    · rw [enc_ge h] at hx
      rcases List.mem_cons.1 hx with rfl | hx
      · omega
      · exact ih (z / 128) (by omega) x hx
theorem enc_pos (z : Nat) : 0 < (enc z).length := by
  by_cases h : z < 128
  · rw [enc_lt h]; simp
  · rw [enc_ge h]; simp
theorem enc_len (k : Nat) : ∀ z, z < 128 ^ k → 0 < k → (enc z).length ≤ k := by
  induction k with
  | zero => intro z _ h; omega
  | succ k ih =>
    intro z hz _
    by_cases h : z < 128
    · rw [enc_lt h]; simp
    · rw [enc_ge h, List.length_cons]
      have h1 : z / 128 < 128 ^ k := by
        rw [Nat.pow_succ] at hz
        exact Nat.div_lt_of_lt_mul (by omega)
      rcases Nat.eq_zero_or_pos k with rfl | hk
      · simp at h1; omega
      · have := ih (z / 128) h1 hk
        omega
theorem enc_ten {z : Nat} (h : z < 18446744073709551616) : (enc z).length ≤ 10 := enc_len 10 z (Nat.lt_of_lt_of_le h (by decide)) (by decide)

/-- what a reading comes to -/
inductive Got where
  | ends | shape
  | num (z k : Nat)
/-- the number that bytes begin with: i of its bytes have been read, they say acc -/
def dec : Nat → Nat → List Nat → Got
  | _, _, [] => .ends
  | i, acc, c :: r =>
    if i = 9 ∧ 1 < c then .shape
    else if 128 ≤ c then dec (i + 1) (acc + c % 128 * 128 ^ i) r
    else if c = 0 ∧ 0 < i then .shape
    else .num (acc + c * 128 ^ i) (i + 1)
theorem dec_enc (z : Nat) : ∀ (i acc : Nat) (r : List Nat), (i = 0 ∨ 0 < z) → z < 2 * 128 ^ (9 - i) → i ≤ 9 → dec i acc (enc z ++ r) = .num (acc + z * 128 ^ i) (i + (enc z).length) := by
  induction z using Nat.strongRecOn with
  | ind z ih =>
    intro i acc r h0 hz hi
    by_cases h : z < 128
    · rw [enc_lt h]
      show dec i acc (z :: r) = _
      rw [dec, if_neg ?_, if_neg (by omega), if_neg (by omega)]
      · rfl
      · rintro ⟨rfl, h1⟩
        simp at hz; omega
    · rw [enc_ge h]
      show dec i acc ((z % 128 + 128) :: (enc (z / 128) ++ r)) = _
      have hi8 : i ≤ 8 := by
        rcases Nat.lt_or_ge i 9 with h9 | h9
        · omega
        · have : i = 9 := by omega
          subst this; simp at hz; omega
      have hp : 128 ^ (9 - i) = 128 * 128 ^ (9 - (i + 1)) := by
        rw [show 9 - i = (9 - (i + 1)) + 1 by omega, Nat.pow_succ, Nat.mul_comm]
      rw [dec, if_neg (by omega), if_pos (by omega), ih (z / 128) (by omega) (i + 1) _ r (.inr (by omega)) (by omega) (by omega)]
      congr 1
      · rw [Nat.pow_succ]
        have e : z = z % 128 + 128 * (z / 128) := (Nat.mod_add_div z 128).symm
        have e2 : (z % 128 + 128) % 128 = z % 128 := by omega
        rw [e2]
        conv => rhs; rw [e]
        rw [Nat.add_mul, Nat.add_assoc, Nat.mul_comm (128 ^ i) 128, ← Nat.mul_assoc, Nat.mul_comm (z / 128) 128]
      · rw [List.length_cons]; omega
theorem or128 (a : Nat) (h : a < 256) : a ||| 128 = a % 128 + 128 := by
  have : ∀ a : Fin 256, (a.val ||| 128) = a.val % 128 + 128 := by decide
  exact this ⟨a, h⟩
end Go.Proofs.YtdgbgdkfoeoppaaDoor.Wire
