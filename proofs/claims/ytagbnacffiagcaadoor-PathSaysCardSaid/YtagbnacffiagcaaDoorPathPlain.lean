/- Plain facts about texts cut at slashes (chapter 12). No program stands here. -/
import Derived.Lib.SplitLaws
import Derived.Lib.IndexLaws
import Derived.Lib.IndexBytes
namespace Go.Proofs.YtagbnacffiagcaaDoor.Path
open Go

/-- cut at each slash -/
def cut : List UInt8 → List (List UInt8)
  | [] => [[]]
  | c :: l => if c = 47 then [] :: cut l else match cut l with
    | [] => [[c]]
    | x :: r => (c :: x) :: r
theorem cut_nil : cut [] = [[]] := rfl
theorem cut_slash (l : List UInt8) : cut (47 :: l) = [] :: cut l := by rw [cut, if_pos rfl]
theorem cut_ne (l : List UInt8) : ∃ x r, cut l = x :: r := by
  induction l with
  | nil => exact ⟨[], [], rfl⟩
  | cons c l ih =>
    obtain ⟨x, r, h⟩ := ih
    unfold cut
    rw [h]
    split
    · exact ⟨_, _, rfl⟩
    · exact ⟨_, _, rfl⟩
theorem cut_cons {c : UInt8} (hc : c ≠ 47) {l x : List UInt8} {r : List (List UInt8)} (h : cut l = x :: r) : cut (c :: l) = (c :: x) :: r := by
  rw [cut, if_neg hc, h]
theorem cut_app (a l : List UInt8) (h : ∀ c ∈ a, c ≠ 47) : cut (a ++ 47 :: l) = a :: cut l := by
  induction a with
  | nil => exact cut_slash l
  | cons c a ih =>
    rw [List.cons_append]
    exact cut_cons (h c (by simp)) (ih fun d hd => h d (by simp [hd]))
theorem cut_none (a : List UInt8) (h : ∀ c ∈ a, c ≠ 47) : cut a = [a] := by
  induction a with
  | nil => rfl
  | cons c a ih => exact cut_cons (h c (by simp)) (ih fun d hd => h d (by simp [hd]))

/-- the library's own -/
theorem splitK_cut : ∀ (k : Nat) (l : List UInt8), l.count 47 ≤ k → Lib.splitK [47] 0 k l = cut l := by
  intro k
  induction k with
  | zero =>
    intro l hl
    have h0 : l.count 47 = 0 := by omega
    rw [List.count_eq_zero] at h0
    exact (cut_none l fun c hc he => h0 (he ▸ hc)).symm
  | succ k ih =>
    intro l hl
    unfold Lib.splitK
    rw [Lib.index_one]
    by_cases h : Lib.indexByte l 47 = -1
    · rw [h, if_pos (by decide)]
      have hn := Lib.indexByte_none h
      refine (cut_none l fun c hc he => ?_).symm
      obtain ⟨j, hj⟩ := List.getElem?_of_mem hc
      exact hn j (he ▸ hj)
    · have hge := Lib.indexByte_ge l 47
      obtain ⟨o, ho⟩ := Int.eq_ofNat_of_zero_le (a := Lib.indexByte l 47) (by omega)
      obtain ⟨h1, h2⟩ := Lib.indexByte_some ho
      rw [if_neg (by rw [beq_iff_eq]; exact h), ho]
      have e0 : ((o : Nat) : Int).toNat = o := Int.toNat_natCast o
      rw [e0, Nat.add_zero]
      have hlt : o < l.length := (List.getElem?_eq_some_iff.1 h1).1
      have e1 : l = l.take o ++ 47 :: l.drop (o + 1) := by
        have := (List.getElem?_eq_some_iff.1 h1).2
        conv => lhs; rw [← List.take_append_drop o l, List.drop_eq_getElem_cons hlt, this]
      have h3 : ∀ c ∈ l.take o, c ≠ 47 := by
        intro c hc he
        obtain ⟨j, hj⟩ := List.getElem?_of_mem hc
        rw [List.getElem?_take] at hj
        split at hj
        · rename_i hjo
          exact h2 j hjo (he ▸ hj)
        · cases hj
      have hcnt : (l.drop (o + 1)).count 47 ≤ k := by
        have : l.count 47 = (l.take o).count 47 + (1 + (l.drop (o + 1)).count 47) := by
          conv => lhs; rw [e1, List.count_append, List.count_cons_self]
          omega
        omega
      conv => rhs; rw [e1, cut_app _ _ h3]
      rw [show ([47] : List UInt8).length = 1 from rfl, ih _ hcnt]

/-- what counts as a part -/
def keep (x : List UInt8) : Bool := !(x == [] || x == [46])
def parts (l : List UInt8) : List (List UInt8) := (cut l).filter keep
/-- whether a slash stands behind them -/
def slash (l : List UInt8) : Bool := !(parts l).isEmpty && l.getLast? == some 47
/-- the error's number, or 0 -/
def bad (l : List UInt8) : Nat :=
  if l = [] then 109 else if 256 < l.length then 115 else if l.head? ≠ some 47 ∨ 0 ∈ l then 114
  else if (parts l).any (fun x => decide (24 < x.length)) then 115 else 0
end Go.Proofs.YtagbnacffiagcaaDoor.Path
