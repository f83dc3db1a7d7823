/- Plain facts for PathWrong. No program stands here. -/
import Derived.Test.YtnngckdjkmknhaaDoorPathPlain
namespace Go.Proofs.YtnngckdjkmknhaaDoor.Path
open Go

/-- a slash, and so many times 'ab/' -/
def base (k : Nat) : List UInt8 := 47 :: (List.replicate k [97, 98, 47]).flatten
theorem base_succ (k : Nat) : base (k + 1) = base k ++ [97, 98, 47] := by
  unfold base
  rw [List.replicate_succ', List.flatten_append]
  simp
theorem base_length (k : Nat) : (base k).length = 3 * k + 1 := by
  induction k with
  | zero => rfl
  | succ k ih => rw [base_succ, List.length_append, ih]; simp; omega
theorem base_mem (k : Nat) : ∀ x ∈ base k, x = 47 ∨ x = 97 ∨ x = 98 := by
  induction k with
  | zero => intro x hx; simp [base] at hx; exact .inl hx
  | succ k ih =>
    intro x hx
    rw [base_succ, List.mem_append] at hx
    rcases hx with hx | hx
    · exact ih x hx
    · simp at hx
      rcases hx with h | h | h
      · exact .inr (.inl h)
      · exact .inr (.inr h)
      · exact .inl h
theorem cut_rep (k : Nat) (t : List UInt8) : cut ((List.replicate k [97, 98, 47]).flatten ++ t) = List.replicate k [97, 98] ++ cut t := by
  induction k with
  | zero => rfl
  | succ k ih =>
    have e : (List.replicate (k + 1) ([97, 98, 47] : List UInt8)).flatten ++ t = [97, 98] ++ 47 :: ((List.replicate k [97, 98, 47]).flatten ++ t) := by
      rw [show List.replicate (k + 1) ([97, 98, 47] : List UInt8) = [97, 98, 47] :: List.replicate k [97, 98, 47] from rfl, List.flatten_cons]
      rfl
    rw [e, cut_app _ _ (by decide), ih]
    rfl
theorem parts_base (k : Nat) (t : List UInt8) : parts (base k ++ t) = List.replicate k [97, 98] ++ (cut t).filter keep := by
  unfold parts base
  rw [List.cons_append, cut_slash, cut_rep, List.filter_cons, if_neg (by decide), List.filter_append]
  congr 1
  rw [List.filter_replicate, if_pos (by decide)]
theorem any_base (k : Nat) (l : List (List UInt8)) : (List.replicate k [97, 98] ++ l).any (fun x => decide (24 < x.length)) = l.any (fun x => decide (24 < x.length)) := by
  rw [List.any_append]
  have : (List.replicate k ([97, 98] : List UInt8)).any (fun x => decide (24 < x.length)) = false := by
    rw [List.any_eq_false]
    intro x hx
    rw [List.mem_replicate] at hx
    rw [hx.2]
    decide
  rw [this, Bool.false_or]
theorem head_base (k : Nat) (t : List UInt8) : (base k ++ t).head? = some 47 := rfl
theorem bad_fine (k : Nat) : bad (base k) = if 256 < 3 * k + 1 then 115 else 0 := by
  have e : bad (base k) = bad (base k ++ []) := by rw [List.append_nil]
  have hl := base_length k
  rw [e]
  unfold bad
  rw [if_neg (by simp [base]), parts_base, any_base, List.append_nil, hl]
  by_cases h : 256 < 3 * k + 1
  · rw [if_pos h, if_pos h]
  · rw [if_neg h, if_neg h, if_neg]
    · rfl
    · rintro (h | h)
      · exact h rfl
      · rcases base_mem k 0 h with h | h | h <;> revert h <;> decide
theorem bad_x (k : Nat) : bad (120 :: base k) = if 256 < 3 * k + 2 then 115 else 114 := by
  have hl := base_length k
  unfold bad
  rw [if_neg (by simp), List.length_cons, hl]
  by_cases h : 256 < 3 * k + 2
  · rw [if_pos (by omega), if_pos h]
  · rw [if_neg (by omega), if_neg h, if_pos (.inl (by simp))]
theorem bad_nothing (k : Nat) : bad (base k ++ [0]) = if 256 < 3 * k + 2 then 115 else 114 := by
  have hl := base_length k
  unfold bad
  rw [if_neg (by simp), List.length_append, hl]
  by_cases h : 256 < 3 * k + 2
  · rw [if_pos (by simpa using h), if_pos h]
  · rw [if_neg (by simpa using h), if_neg h, if_pos (.inr (by simp))]
theorem bad_part (k : Nat) : bad (base k ++ List.replicate 25 97) = 115 := by
  have hl := base_length k
  unfold bad
  rw [if_neg (by simp), List.length_append, hl, parts_base, any_base]
  by_cases h : 256 < 3 * k + 1 + (List.replicate 25 (97 : UInt8)).length
  · rw [if_pos h]
  · rw [if_neg h, if_neg, if_pos (by decide)]
    rintro (h | h)
    · exact h rfl
    · rw [List.mem_append] at h
      rcases h with h | h
      · rcases base_mem k 0 h with h | h | h <;> revert h <;> decide
      · rw [List.mem_replicate] at h; revert h; decide
end Go.Proofs.YtnngckdjkmknhaaDoor.Path
