/- The plain law of RecOrders: keys stand as their places do; a key reads back. No program stands here. -/
import Derived.Test.YtdgbgdkfoeoppaaDoorRecLessC
import Derived.Test.YtdgbgdkfoeoppaaDoorRecRead
namespace Go.Proofs.YtdgbgdkfoeoppaaDoor.RecW
open Go Go.RowKit Go.Proofs.YtdgbgdkfoeoppaaDoor.Mem Go.Proofs.YtdgbgdkfoeoppaaDoor.RefW Go.Proofs.YtdgbgdkfoeoppaaDoor.Text
set_option linter.unusedVariables false

/-- is one place ahead of another one, as the statement says -/
def aheadP (k n i : Int) (s : List Nat) (k' n' i' : Int) (s' : List Nat) : Bool :=
  decide (k < k') || (k == k' && (decide (n < n') || (n == n' && (decide (i < i') || (i == i' && lt s s')))))
theorem lt_txt (s t : ByteArray) : Op.bytesLess s.data.toList t.data.toList = lt (txt s) (txt t) := by
  unfold txt
  generalize s.data.toList = a
  generalize t.data.toList = b
  induction a generalizing b with
  | nil => cases b <;> rfl
  | cons x a ih =>
    cases b with
    | nil => rfl
    | cons y b =>
      simp only [Op.bytesLess, List.map_cons, lt, ih]
      congr 1
      congr 1
      rw [Bool.eq_iff_iff]
      simp [UInt8.toNat_inj]
theorem cmp_neg' (a b : List UInt8) : Lib.compareBytes a b < 0 ↔ lt (a.map UInt8.toNat) (b.map UInt8.toNat) = true := by
  induction a generalizing b with
  | nil => cases b <;> simp [Lib.compareBytes, lt]
  | cons x a ih =>
    cases b with
    | nil => simp [Lib.compareBytes, lt]
    | cons y b =>
      rcases Nat.lt_trichotomy x.toNat y.toNat with h | h | h
      · rw [show Lib.compareBytes (x :: a) (y :: b) = -1 by simp only [Lib.compareBytes]; rw [if_pos (UInt8.lt_iff_toNat_lt.2 h)]]
        simp [lt, h]
      · obtain rfl := UInt8.toNat_inj.1 h
        rw [show Lib.compareBytes (x :: a) (x :: b) = Lib.compareBytes a b by simp [Lib.compareBytes]]
        rw [ih]
        simp [lt]
      · rw [show Lib.compareBytes (x :: a) (y :: b) = 1 by simp only [Lib.compareBytes]; rw [if_neg (by rw [UInt8.lt_iff_toNat_lt]; omega), if_pos (UInt8.lt_iff_toNat_lt.2 h)]]
        simp only [List.map_cons, lt, Bool.or_eq_true, decide_eq_true_eq, Bool.and_eq_true, beq_iff_eq]
        omega
theorem cmp_neg (s t : ByteArray) : decide (Lib.compareBytes s.data.toList t.data.toList < 0) = lt (txt s) (txt t) := by
  rw [Bool.eq_iff_iff, decide_eq_true_eq]
  exact cmp_neg' _ _
theorem b3_lt (n m : Nat) (r r' : List Nat) (hn : n < 16777216) (hm : m < 16777216) : lt (b3 n ++ r) (b3 m ++ r') = (decide (n < m) || (n == m && lt r r')) := by
  have key : ∀ (a b c a' b' c' : Nat) (L : Bool), a < 256 → b < 256 → c < 256 → a' < 256 → b' < 256 → c' < 256 → n = a * 65536 + b * 256 + c → m = a' * 65536 + b' * 256 + c' →
      (decide (a < a') || (a == a' && (decide (b < b') || (b == b' && (decide (c < c') || (c == c' && L)))))) = (decide (n < m) || (n == m && L)) := by
    intro a b c a' b' c' L h1 h2 h3 h4 h5 h6 e e'
    rw [Bool.eq_iff_iff]
    simp only [Bool.or_eq_true, decide_eq_true_eq, Bool.and_eq_true, beq_iff_eq]
    constructor
    · rintro (h | ⟨h, h' | ⟨h', h'' | ⟨h'', hL⟩⟩⟩)
      · left; omega
      · left; omega
      · left; omega
      · right; exact ⟨by omega, hL⟩
    · rintro (h | ⟨h, hL⟩)
      · rcases Nat.lt_trichotomy a a' with g | g | g
        · exact .inl g
        · refine .inr ⟨g, ?_⟩
          rcases Nat.lt_trichotomy b b' with f | f | f
          · exact .inl f
          · exact .inr ⟨f, .inl (by omega)⟩
          · omega
        · omega
      · exact .inr ⟨by omega, .inr ⟨by omega, .inr ⟨by omega, hL⟩⟩⟩
  simp only [b3, List.cons_append, List.nil_append, lt]
  exact key _ _ _ _ _ _ _ (by omega) (by omega) (by omega) (by omega) (by omega) (by omega) (by omega) (by omega)
theorem sgn_or (x y : Int) (l : List Int) : decide (orL (sgn x y :: l) < 0) = (decide (x < y) || (x == y && decide (orL l < 0))) := by
  have e : orL (sgn x y :: l) = if sgn x y ≠ 0 then sgn x y else orL l := rfl
  rw [e]
  clear e
  generalize orL l = q
  unfold sgn
  rcases Int.lt_trichotomy x y with h | h | h
  · simp [h]
  · subst h; simp
  · have h1 : ¬ x < y := by omega
    have h2 : ¬ x = y := by omega
    simp [h, h1, h2]
theorem or_one (x : Int) : orL [x] = x := by
  show (if x ≠ 0 then x else 0) = x
  split <;> simp_all
theorem lessA_eq (k n i : Int) (s : ByteArray) (k' n' i' : Int) (s' : ByteArray) : lessA k n i s k' n' i' s' = aheadP k n i (txt s) k' n' i' (txt s') := by
  unfold lessA aheadP
  rw [sgn_or, sgn_or, sgn_or, ← cmp_neg, or_one]
theorem keyL_ahead (k n i : Nat) (s : ByteArray) (k' n' i' : Nat) (s' : ByteArray) (h : ¬ Bad k n i s) (h' : ¬ Bad k' n' i' s') :
    lt (keyL k n i (txt s)) (keyL k' n' i' (txt s')) = aheadP k n i (txt s) k' n' i' (txt s') := by
  unfold Bad at h h'
  have hn : n < 16777216 := by omega
  have hn' : n' < 16777216 := by omega
  have hi : i < 16777216 := by omega
  have hi' : i' < 16777216 := by omega
  unfold keyL aheadP
  rw [lt]
  have e1 : decide ((k : Int) < (k' : Int)) = decide (k < k') := by apply decide_eq_decide.2; omega
  have e2 : ((k : Int) == (k' : Int)) = (k == k') := by rw [Bool.eq_iff_iff, beq_iff_eq, beq_iff_eq]; omega
  rw [e1, e2]
  by_cases hk : k = k'
  · subst hk
    congr 1
    congr 1
    rw [b3_lt _ _ _ _ hn hn']
    have e3 : decide ((n : Int) < (n' : Int)) = decide (n < n') := by apply decide_eq_decide.2; omega
    have e4 : ((n : Int) == (n' : Int)) = (n == n') := by rw [Bool.eq_iff_iff, beq_iff_eq, beq_iff_eq]; omega
    rw [e3, e4]
    congr 1
    congr 1
    have e5 : decide ((i : Int) < (i' : Int)) = decide (i < i') := by apply decide_eq_decide.2; omega
    have e6 : ((i : Int) == (i' : Int)) = (i == i') := by rw [Bool.eq_iff_iff, beq_iff_eq, beq_iff_eq]; omega
    rw [e5, e6]
    by_cases h4 : k = 4
    · simp only [if_pos h4]
      rw [b3_lt _ _ _ _ hi hi']
    · simp only [if_neg h4]
      obtain rfl : i = 0 := by omega
      obtain rfl : i' = 0 := by omega
      simp
  · have e7 : (k == k') = false := by simpa using hk
    rw [e7, Bool.false_and, Bool.false_and]
theorem keyL_back (k n i : Nat) (s : ByteArray) (h : ¬ Bad k n i s) (hs : s.size ≤ 24) : readL (keyL k n i (txt s)) = (0, k, n, i, txt s) := by
  have h' := h
  unfold Bad at h'
  have hn : num [n / 65536 % 256, n / 256 % 256, n % 256] = n := by rw [num3]; omega
  have hi : num [i / 65536 % 256, i / 256 % 256, i % 256] = i := by rw [num3]; omega
  have e : ∀ r, keyL k n i (txt s) = k :: b3 n ++ r → r = (if k = 4 then b3 i else []) ++ txt s := by
    intro r hr
    unfold keyL at hr
    simp only [List.cons_append, List.cons.injEq, true_and] at hr
    exact (List.append_cancel_left hr).symm
  by_cases h4 : k = 4
  · have hz : txt s = [] := List.eq_nil_of_length_eq_zero (by rw [Text.length]; omega)
    subst h4
    simp only [keyL, hz, if_true, b3, List.cons_append, List.nil_append, List.append_nil, readL]
    simp [hn, hi]
  · have h0 : i = 0 := by omega
    subst h0
    simp only [keyL, if_neg h4, b3, List.cons_append, List.nil_append, readL]
    rw [if_neg (by omega)]
    by_cases h3 : k = 3
    · rw [if_pos h3, if_neg (by rw [Text.length]; omega), hn, h3]
    · have hz : txt s = [] := List.eq_nil_of_length_eq_zero (by rw [Text.length]; omega)
      rw [if_neg h3, hz, if_neg (by simp), hn]
end Go.Proofs.YtdgbgdkfoeoppaaDoor.RecW
