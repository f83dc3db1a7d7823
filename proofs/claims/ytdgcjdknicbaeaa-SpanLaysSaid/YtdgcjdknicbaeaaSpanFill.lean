/- Plain facts about rows into which others are laid (chapter 13). -/
import Derived.Laws.CopyOwn
import Derived.Test.YtdgcjdknicbaeaaSpanPlain
namespace Go.Proofs.Ytdgcjdknicbaeaa.Span
open Go

theorem splice_get {l m : List Nat} {i : Nat} (h : i + m.length ≤ l.length) (j : Nat) : (splice l i m)[j]? = if i ≤ j ∧ j < i + m.length then m[j - i]? else l[j]? := by
  unfold splice
  rw [List.getElem?_append, List.length_take, Nat.min_eq_left (by omega)]
  by_cases h1 : j < i
  · rw [if_pos h1, if_neg (by omega), List.getElem?_take, if_pos h1]
  · rw [if_neg h1, List.getElem?_append]
    by_cases h2 : j < i + m.length
    · rw [if_pos (by omega), if_pos (by omega)]
    · rw [if_neg (by omega), if_neg (by omega), List.getElem?_drop]
      congr 1
      omega
theorem splice_nil (l : List Nat) (i : Nat) : splice l i [] = l := by
  simp [splice]

/-- one more byte of what is laid -/
theorem splice_set {l m : List Nat} {i j x : Nat} (h : i + m.length ≤ l.length) (hj : j < m.length) (hx : m[j]? = some x) :
    (splice l i (m.take j)).set (i + j) x = splice l i (m.take (j + 1)) := by
  have e1 : (m.take j).length = j := by rw [List.length_take]; omega
  have e2 : (m.take (j + 1)).length = j + 1 := by rw [List.length_take]; omega
  apply List.ext_getElem?
  intro q
  rw [List.getElem?_set, length_splice _ _ _ (by omega), splice_get (by omega), splice_get (by omega), e1, e2]
  by_cases hq : i + j = q
  · subst hq
    rw [if_pos rfl, if_pos (by omega), if_pos (by omega), List.getElem?_take, if_pos (by omega)]
    rw [show i + j - i = j by omega, hx]
  · rw [if_neg hq]
    by_cases h1 : i ≤ q ∧ q < i + j
    · rw [if_pos h1, if_pos (by omega), List.getElem?_take, List.getElem?_take, if_pos (by omega), if_pos (by omega)]
    · rw [if_neg h1, if_neg (by omega)]

/-- a piece laid into its block, and that over what is there -/
theorem splice_piece {R l : List Nat} {p f k I F : Nat} (hR : R.length = 2048) (hp : p + l.length ≤ 2048) (hfk : f + k ≤ l.length) (hI : 256 * I + F = p + f) (hF : F + k ≤ 256) (h7 : I ≤ 7) :
    splice (splice R p (l.take f)) (256 * I) (splice (((splice R p (l.take f)).drop (256 * I)).take 256) F ((l.drop f).take k)) = splice R p (l.take (f + k)) := by
  have e1 : (l.take f).length = f := by rw [List.length_take]; omega
  have e2 : (l.take (f + k)).length = f + k := by rw [List.length_take]; omega
  have e3 : ((l.drop f).take k).length = k := by rw [List.length_take, List.length_drop]; omega
  have e4 : (splice R p (l.take f)).length = 2048 := by rw [length_splice _ _ _ (by omega)]; exact hR
  have e5 : (((splice R p (l.take f)).drop (256 * I)).take 256).length = 256 := by rw [List.length_take, List.length_drop]; omega
  have e6 : (splice (((splice R p (l.take f)).drop (256 * I)).take 256) F ((l.drop f).take k)).length = 256 := by rw [length_splice _ _ _ (by omega)]; exact e5
  apply List.ext_getElem?
  intro q
  rw [splice_get (l := splice R p (l.take f)) (by omega), e6, splice_get (l := ((splice R p (l.take f)).drop (256 * I)).take 256) (by omega), e3, splice_get (l := R) (m := l.take (f + k)) (by omega), e2]
  by_cases h1 : 256 * I ≤ q ∧ q < 256 * I + 256
  · rw [if_pos h1]
    by_cases h2 : F ≤ q - 256 * I ∧ q - 256 * I < F + k
    · rw [if_pos h2, if_pos (by omega), List.getElem?_take, if_pos (by omega), List.getElem?_drop, List.getElem?_take, if_pos (by omega)]
      congr 1
      omega
    · rw [if_neg h2, List.getElem?_take, if_pos (by omega), List.getElem?_drop, show 256 * I + (q - 256 * I) = q by omega, splice_get (by omega), e1]
      by_cases h3 : p ≤ q ∧ q < p + f
      · rw [if_pos h3, if_pos (by omega), List.getElem?_take, List.getElem?_take, if_pos (by omega), if_pos (by omega)]
      · rw [if_neg h3, if_neg (by omega)]
  · rw [if_neg h1, splice_get (by omega), e1]
    by_cases h3 : p ≤ q ∧ q < p + f
    · rw [if_pos h3, if_pos (by omega), List.getElem?_take, List.getElem?_take, if_pos (by omega), if_pos (by omega)]
    · rw [if_neg h3, if_neg (by omega)]

/-- what is there in the end -/
theorem splice_in {R l : List Nat} {p q : Nat} (hp : p + l.length ≤ R.length) (h : p ≤ q ∧ q < p + l.length) : (splice R p l)[q]? = l[q - p]? := by
  rw [splice_get hp, if_pos h]
theorem splice_out {c n : Nat} {l : List Nat} {p q : Nat} (hp : p + l.length ≤ n) (h : ¬ (p ≤ q ∧ q < p + l.length)) (hq : q < n) : (splice (List.replicate n c) p l)[q]? = some c := by
  rw [splice_get (by simpa using hp), if_neg h, List.getElem?_replicate, if_pos hq]

theorem fill_get (k c m q : Nat) : (List.replicate k c ++ List.replicate m 0)[q]? = if q < k then some c else if q < k + m then some 0 else none := by
  rw [List.getElem?_append, List.length_replicate, List.getElem?_replicate, List.getElem?_replicate]
  by_cases h1 : q < k
  · rw [if_pos h1, if_pos h1, if_pos h1]
  · rw [if_neg h1, if_neg h1]
    by_cases h2 : q < k + m
    · rw [if_pos (by omega), if_pos h2]
    · rw [if_neg (by omega), if_neg h2]
/-- one more of the first ones -/
theorem fill_set (n k c : Nat) (h : k < n) : (List.replicate k c ++ List.replicate (n - k) 0).set k c = List.replicate (k + 1) c ++ List.replicate (n - (k + 1)) 0 := by
  apply List.ext_getElem?
  intro q
  rw [List.getElem?_set, fill_get, fill_get, List.length_append, List.length_replicate, List.length_replicate]
  by_cases hq : k = q
  · subst hq
    rw [if_pos rfl, if_pos (by omega), if_pos (by omega)]
  · rw [if_neg hq]
    by_cases h1 : q < k
    · rw [if_pos h1, if_pos (by omega)]
    · rw [if_neg h1, if_neg (show ¬ q < k + 1 by omega), show k + (n - k) = n by omega, show k + 1 + (n - (k + 1)) = n by omega]
end Go.Proofs.Ytdgcjdknicbaeaa.Span
