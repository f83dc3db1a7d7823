/- The library's Contains, Split and Join as package path calls them. -/
import Derived.Test.YtagbnacffiagcaaDoorShelfP
import Derived.Test.YtagbnacffiagcaaDoorMem
import Derived.Test.YtagbnacffiagcaaDoorPathPlain
import Derived.Shelf.Strings.SplitCore
import Derived.Lib.IndexAny
namespace Go.Proofs.YtagbnacffiagcaaDoor.PathW
open Go Go.RowKit Go.Proofs.YtagbnacffiagcaaDoor.Mem Go.Shelf
set_option linter.unusedVariables false
set_option maxRecDepth 100000

/-- a row of texts -/
def Texts (w : World) (a : Option Addr) (n cap : Nat) (xs : List ByteArray) : Prop := Row w 1 a n cap (xs.map Value.string)
theorem Texts.below {w w' : World} {a : Option Addr} {n cap : Nat} {xs : List ByteArray} (h : Texts w a n cap xs) (hb : Below w.heap.size w w') : Texts w' a n cap xs := Row.below h hb
theorem Texts.len {w : World} {a : Option Addr} {n cap : Nat} {xs : List ByteArray} (h : Texts w a n cap xs) : xs.length = n := by
  have := h.1; simp at this; omega
theorem Texts.bound {w : World} {a : Option Addr} {n cap : Nat} {xs : List ByteArray} (h : Texts w a n cap xs) : n ≤ cap ∧ cap ≤ 9223372036854775807 := by
  have := h.2.2.1; unfold maxLen at this; exact ⟨h.2.1, by omega⟩
theorem Texts.at {w : World} {a : Option Addr} {n cap : Nat} {xs : List ByteArray} (h : Texts w a n cap xs) {j : Nat} (hj : j < xs.length) :
    ∃ b off, a = some ⟨b, off, none⟩ ∧ w.cell? ⟨b, off + j, none⟩ = some (.string xs[j]) := h.2.2.2.2 j _ (by simp [hj])

/-- cut at slashes, as the library does it -/
def pieces (s : ByteArray) : List ByteArray := Lib.splitB ⟨#[47]⟩ 0 (Lib.countB s ⟨#[47]⟩) s
theorem pieces_map (s : ByteArray) : (pieces s).map (·.data.toList) = Path.cut s.data.toList := by
  unfold pieces
  rw [Lib.splitB_data]
  exact Path.splitK_cut _ _ (by show _ ≤ Lib.count s.data.toList [47]; rw [Lib.count_one]; exact Nat.le_refl _)
theorem pieces_length (s : ByteArray) : (pieces s).length = Lib.countB s ⟨#[47]⟩ + 1 := Lib.splitB_all _ (by decide) 0 _ s rfl
theorem pieces_le (s : ByteArray) : (pieces s).length ≤ s.size + 1 := by
  rw [pieces_length]
  have := Lib.countB_le ⟨#[47]⟩ (by decide) s.size s (Nat.le_refl _)
  omega

theorem contains_w (s : ByteArray) (w : World) :
    Calls Tryd.prog 85 #[.string s, .string ⟨#[0]⟩] w fun e w' => e = .returned (.bool (decide ((0 : UInt8) ∈ s.data.toList))) ∧ w = w' := by
  refine (Tryd.strings_Contains_one s 0 w).mono ?_
  rintro e w' ⟨rfl, rfl⟩
  rw [← Lib.contains_iff_indexByte]
  exact ⟨by rw [List.contains_eq_mem], rfl⟩

set_option maxHeartbeats 1000000 in
theorem split_w (s : ByteArray) (w : World) (hs : s.size < 4294967281) :
    Calls Tryd.prog 86 #[.string s, .string ⟨#[47]⟩] w fun e w' => e = .returned (.slice (some ⟨w.heap.size, 0, none⟩) (pieces s).length (pieces s).length) ∧ w' = w.alloc (.cells ((pieces s).map Value.string).toArray 9) := by
  have hle := Lib.countB_le ⟨#[47]⟩ (by decide) s.size s (Nat.le_refl _)
  have hlen := Lib.splitB_all ⟨#[47]⟩ (by decide) 0 _ s rfl
  have c := Any.strings_genSplit_core Tryd.lays221 (by kernel_rfl) s ⟨#[47]⟩ 0 (-1) (Lib.countB s ⟨#[47]⟩ + 1) w hs (by decide) (Nat.zero_le _)
    (fun x c hx => (Any.strings_Index_one Tryd.lays143 x 47 _).mono fun e w' ⟨he, hw⟩ => ⟨by rw [he]; show _ = Ending.returned (Value.int .i64 (Lib.index x.data.toList [47])); rw [Lib.index_one], hw⟩)
    ((Any.strings_Count_one Tryd.lays138 s 47 w).mono fun e w' ⟨he, hw⟩ => ⟨by rw [he]; show _ = Ending.returned (Value.int .i64 ((Lib.count s.data.toList [47] : Nat) : Int)); rw [Lib.count_one]; rfl, hw⟩)
    (by decide) (by decide) (by rw [if_pos (by decide)]; omega)
  rw [Nat.add_sub_cancel, hlen] at c
  have e2 : Lib.cellsOf (Lib.splitB ⟨#[47]⟩ 0 (Lib.countB s ⟨#[47]⟩) s) (Lib.countB s ⟨#[47]⟩ + 1) = ((Lib.splitB ⟨#[47]⟩ 0 (Lib.countB s ⟨#[47]⟩) s).map Value.string).toArray := by rw [← hlen]; exact Lib.cellsOf_full _
  rw [e2] at c
  rw [← hlen] at c
  change Calls Tryd.prog 113 _ w _ at c
  clear hlen e2 hle
  go_enter Tryd.func86, Tryd.ntmps86
  go_wp2_with fail
  refine c.mono ?_
  rintro e w1 ⟨rfl, rfl⟩
  go_wp2
  go_ret
  exact ⟨rfl, rfl⟩

/-- texts joined by slashes -/
theorem join_w (a : Option Addr) (n cap : Nat) (xs : List ByteArray) (w : World) (h : Texts w a n cap xs) (hn : n ≤ 140737488355328) (hl : (Lib.join (xs.map (·.data.toList)) [47]).length ≤ 140737488355328) :
    Calls Tryd.prog 87 #[.slice a n cap, .string ⟨#[47]⟩] w fun e w' => e = .returned (.string ⟨(Lib.join (xs.map (·.data.toList)) [47]).toArray⟩) ∧ Below w.heap.size w w' := by
  have hlen := h.len
  cases a with
  | none =>
    have hc := h.2.2.2.1 rfl
    have hn0 : n = 0 := by have := h.2.1; omega
    subst hn0
    obtain rfl := List.eq_nil_of_length_eq_zero hlen
    refine (Tryd.strings_Join_none none cap ⟨#[47]⟩ w).mono ?_
    rintro e w' ⟨rfl, rfl⟩
    exact ⟨rfl, Below.refl _ _⟩
  | some ad =>
    rcases Nat.eq_zero_or_pos n with hn0 | hn0
    · subst hn0
      obtain rfl := List.eq_nil_of_length_eq_zero hlen
      refine (Tryd.strings_Join_none (some ad) cap ⟨#[47]⟩ w).mono ?_
      rintro e w' ⟨rfl, rfl⟩
      exact ⟨rfl, Below.refl _ _⟩
    · obtain ⟨b, o, he, hc⟩ := h.at (j := 0) (by omega)
      cases he
      subst hlen
      refine (Tryd.strings_Join b o cap xs ⟨#[47]⟩ w ?_ (World.block_lt_of_cell? _ _ hc) hn h.bound.1 hl).mono fun e w' h => h
      intro j x hj
      obtain ⟨b', o', he, hc'⟩ := h.2.2.2.2 j (.string x) (by simp [hj])
      cases he
      exact hc'
end Go.Proofs.YtagbnacffiagcaaDoor.PathW
