/- The walks of path.Text, path.Join, path.Split. -/
import Derived.Test.YtagbnacffiagcaaDoorPathSame
namespace Go.Proofs.YtagbnacffiagcaaDoor.PathW
open Go Go.RowKit Go.Proofs.YtagbnacffiagcaaDoor.Mem Go.Proofs.YtagbnacffiagcaaDoor.SeeW
set_option linter.unusedVariables false
set_option maxRecDepth 100000

theorem app_list (x y : ByteArray) : (x ++ y).data.toList = x.data.toList ++ y.data.toList := by rw [ByteArray.data_append, Array.toList_append]
/-- the lists of texts -/
abbrev ls (xs : List ByteArray) : List (List UInt8) := xs.map (·.data.toList)
/-- a path's text -/
def text (xs : List ByteArray) (sl : Bool) : List UInt8 := 47 :: Lib.join (ls xs) [47] ++ if sl then [47] else []

set_option maxHeartbeats 800000 in
theorem text_w (a : Option Addr) (n cap : Nat) (xs : List ByteArray) (sl : Bool) (w : World) (h : Texts w a n cap xs) (hn : n ≤ 140737488355328) (hl : (Lib.join (ls xs) [47]).length ≤ 140737488355327) :
    Calls Tryd.prog 25 #[Pt (.slice a n cap) sl] w fun e w' => ∃ s, e = .returned (.string s) ∧ s.data.toList = text xs sl ∧ Below w.heap.size w w' := by
  have q1 := fun (b : Bool) => new2 w (.slice a n cap) (.bool b) 57
  have bx := fun (b : Bool) => (Below.refl w.heap.size w).alloc (Nat.le_refl _) (.cells #[.slice a n cap, .bool b] 57)
  cases sl
  · obtain ⟨q0, q1⟩ := q1 false
    have bx := bx false
    go_enter Tryd.func25, Tryd.ntmps25
    go_wp2_with fail
    refine (join_w a n cap xs _ (h.below bx) hn (Nat.le_trans hl (by omega))).mono ?_
    rintro e w1 ⟨rfl, hb1⟩
    replace q0 := Mem.kept hb1 q0
    replace q1 := Mem.kept hb1 q1
    have hb2 := bx.trans (hb1.mono (by simp))
    clear bx hb1 h
    have e1 : text xs false = 47 :: Lib.join (xs.map (·.data.toList)) [47] := by unfold text; simp
    have hl2 := hl
    change (Lib.join (xs.map (·.data.toList)) [47]).length ≤ _ at hl2
    generalize Lib.join (xs.map (·.data.toList)) [47] = L at *
    have E1 := hid e1
    clear e1 hl
    go_wp2
    go_ret
    exact ⟨_, rfl, by rw [E1.out, app_list]; rfl, hb2⟩
  · obtain ⟨q0, q1⟩ := q1 true
    have bx := bx true
    go_enter Tryd.func25, Tryd.ntmps25
    go_wp2_with fail
    refine (join_w a n cap xs _ (h.below bx) hn (Nat.le_trans hl (by omega))).mono ?_
    rintro e w1 ⟨rfl, hb1⟩
    replace q0 := Mem.kept hb1 q0
    replace q1 := Mem.kept hb1 q1
    have hb2 := bx.trans (hb1.mono (by simp))
    clear bx hb1 h
    have e1 : text xs true = (47 :: Lib.join (xs.map (·.data.toList)) [47]) ++ [47] := rfl
    have hl2 := hl
    change (Lib.join (xs.map (·.data.toList)) [47]).length ≤ _ at hl2
    generalize Lib.join (xs.map (·.data.toList)) [47] = L at *
    have E1 := hid e1
    clear e1 hl
    go_wp2
    go_ret
    exact ⟨_, rfl, by rw [E1.out, app_list, app_list]; rfl, hb2⟩

/-- a text, and parts behind it -/
def joined (s : List UInt8) (xs : List ByteArray) : List UInt8 := s ++ (xs.map fun x => 47 :: x.data.toList).flatten
theorem joined_succ (s : List UInt8) (xs : List ByteArray) (x : ByteArray) : joined s (xs ++ [x]) = joined s xs ++ 47 :: x.data.toList := by
  unfold joined
  rw [List.map_append, List.flatten_append, List.append_assoc]
  simp

theorem joined_le (s : List UInt8) (xs : List ByteArray) (k : Nat) : (joined s (xs.take k)).length ≤ (joined s xs).length := by
  conv => rhs; rw [← List.take_append_drop k xs]
  unfold joined
  rw [List.map_append, List.flatten_append, List.length_append, List.length_append, List.length_append]
  omega

set_option maxHeartbeats 800000 in
theorem pjoin_w (s : ByteArray) (a : Option Addr) (n cap : Nat) (xs : List ByteArray) (w : World) (h : Texts w a n cap xs) (hl : (joined s.data.toList xs).length ≤ 1000000) :
    Calls Tryd.prog 26 #[.string s, .slice a n cap] w fun e w' => ∃ t, e = .returned (.string t) ∧ t.data.toList = joined s.data.toList xs ∧ w = w' := by
  obtain ⟨c1, c2⟩ := h.bound
  have HL := hid h.len
  go_enter Tryd.func26, Tryd.ntmps26
  go_wp2
  go_loopw [0, 9] (fun v i wr => ∃ (k : Nat) (t : ByteArray), k ≤ n ∧ i = .int .i64 k ∧ v = .string t ∧ t.data.toList = joined s.data.toList (xs.take k) ∧ w = wr) (fun _ i _ => n - (intOf i).toNat)
  case atStart => exact ⟨0, s, by omega, rfl, rfl, by simp [joined], rfl⟩
  case round =>
    obtain ⟨k, t, hk, rfl, rfl, ht, rfl⟩ := hrel
    by_cases hlt : k < n
    · have hkl : k < xs.length := by rw [HL.out]; exact hlt
      obtain ⟨b0, o0, rfl, hc0⟩ := h.at hkl
      have HS := hid (List.take_succ_eq_append_getElem hkl)
      have hk1 := joined_le s.data.toList xs (k + 1)
      rw [HS.out, joined_succ, ← ht, List.length_append, List.length_cons] at hk1
      generalize xs[k] = x at hc0 HS hk1
      have l1 : t.data.toList.length = t.size := by rw [Array.length_toList]; rfl
      have l2 : x.data.toList.length = x.size := by rw [Array.length_toList]; rfl
      rw [l1, l2] at hk1
      have hk2 : t.size + (x.size + 1) ≤ 1000000 := by omega
      clear h
      go_wp2
      go_roundw
      case rel => exact ⟨k + 1, _, by omega, by go_num, rfl, by rw [HS.out, joined_succ, app_list, app_list, ht]; rfl, trivial⟩
      case measure => simp [intOf]; omega
    · obtain rfl : k = n := by omega
      rw [List.take_of_length_le (by rw [HL.out]; exact Nat.le_refl _)] at ht
      go_wp2
      go_ret
      exact ⟨t, rfl, ht, rfl⟩

/-- the last part goes upward, or there is none -/
def noSplit (xs : List ByteArray) : Bool := xs.getLast? == none || xs.getLast? == some ⟨#[46, 46]⟩
end Go.Proofs.YtagbnacffiagcaaDoor.PathW
