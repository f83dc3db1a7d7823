/- Plain facts about parts joined (chapter 12). No program stands here. -/
import Derived.Test.YtagbnacffiagcaaDoorPathPlain
import Derived.Lib.Join
namespace Go.Proofs.YtagbnacffiagcaaDoor.Path
open Go

theorem cut_mid (a l : List UInt8) : cut (a ++ 47 :: l) = cut a ++ cut l := by
  induction a with
  | nil => rw [List.nil_append, cut_slash]; rfl
  | cons c a ih =>
    rw [List.cons_append]
    by_cases hc : c = 47
    · subst hc
      rw [cut_slash, cut_slash, ih]
      rfl
    · obtain ⟨x, r, h⟩ := cut_ne a
      rw [h] at ih
      rw [cut_cons hc h, cut_cons hc ih]
      rfl
theorem parts_mid (a l : List UInt8) : parts (a ++ 47 :: l) = parts a ++ parts l := by
  unfold parts
  rw [cut_mid, List.filter_append]
theorem parts_slash (l : List UInt8) : parts (47 :: l) = parts l := by
  have := parts_mid [] l
  rw [List.nil_append] at this
  rw [this]
  rfl
/-- a part as it may be -/
def Nice (x : List UInt8) : Prop := keep x = true ∧ (∀ c ∈ x, c ≠ 47) ∧ (0 : UInt8) ∉ x ∧ x.length ≤ 24
theorem parts_one {x : List UInt8} (h : Nice x) : parts x = [x] := by
  unfold parts
  rw [cut_none x h.2.1, List.filter_cons, if_pos h.1, List.filter_nil]
theorem parts_nil : parts [] = [] := rfl
theorem join_cons2 (x y : List UInt8) (r : List (List UInt8)) : Lib.join (x :: y :: r) [47] = x ++ 47 :: Lib.join (y :: r) [47] := by
  unfold Lib.join
  rw [List.intercalate_cons_cons]
  simp
theorem parts_join : ∀ (xs : List (List UInt8)), (∀ x ∈ xs, Nice x) → parts (Lib.join xs [47]) = xs := by
  intro xs
  induction xs with
  | nil => intro _; rfl
  | cons x r ih =>
    intro h
    cases r with
    | nil => rw [Lib.join_one]; exact parts_one (h x (by simp))
    | cons y r =>
      rw [join_cons2, parts_mid, parts_one (h x (by simp)), ih fun z hz => h z (by simp [hz])]
      rfl
theorem mem_join : ∀ (xs : List (List UInt8)) (c : UInt8), c ∈ Lib.join xs [47] → c = 47 ∨ ∃ x ∈ xs, c ∈ x := by
  intro xs
  induction xs with
  | nil => intro c hc; cases hc
  | cons x r ih =>
    intro c hc
    cases r with
    | nil => rw [Lib.join_one] at hc; exact .inr ⟨x, by simp, hc⟩
    | cons y r =>
      rw [join_cons2, List.mem_append, List.mem_cons] at hc
      rcases hc with hc | hc | hc
      · exact .inr ⟨x, by simp, hc⟩
      · exact .inl hc
      · rcases ih c hc with h | ⟨z, hz, hcz⟩
        · exact .inl h
        · exact .inr ⟨z, by simp [hz], hcz⟩
theorem join_length_le (m : Nat) : ∀ (xs : List (List UInt8)), (∀ x ∈ xs, x.length ≤ m) → (Lib.join xs [47]).length ≤ xs.length * (m + 1) := by
  intro xs
  induction xs with
  | nil => intro _; exact Nat.zero_le _
  | cons x r ih =>
    intro h
    have hx := h x (by simp)
    cases r with
    | nil => rw [Lib.join_one]; simp; omega
    | cons y r =>
      have := ih fun z hz => h z (by simp [hz])
      rw [join_cons2, List.length_append, List.length_cons, List.length_cons]
      have e : (y :: r).length + 1 = (y :: r).length + 1 := rfl
      rw [Nat.add_mul]
      omega
/-- a text that is right -/
theorem bad_zero {l : List UInt8} (h1 : l.head? = some 47) (h2 : l.length ≤ 256) (h3 : (0 : UInt8) ∉ l) (h4 : ∀ x ∈ parts l, x.length ≤ 24) : bad l = 0 := by
  unfold bad
  rw [if_neg (by intro e; rw [e] at h1; cases h1), if_neg (by omega), if_neg (by rintro (h | h); exact h h1; exact h3 h), if_neg]
  rw [List.any_eq_true]
  rintro ⟨x, hx, hx2⟩
  have := h4 x hx
  rw [decide_eq_true_eq] at hx2
  omega
end Go.Proofs.YtagbnacffiagcaaDoor.Path
