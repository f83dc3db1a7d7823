/- The walk of RecOrders where one of the places has no key. -/
import Derived.Test.YtdgbgdkfoeoppaaDoorRecKeyB
namespace Go.Proofs.YtdgbgdkfoeoppaaDoor.recOrders
open Go Go.RowKit Go.Proofs.YtdgbgdkfoeoppaaDoor.Mem Go.Proofs.YtdgbgdkfoeoppaaDoor.RefW Go.Proofs.YtdgbgdkfoeoppaaDoor.Text Go.Proofs.YtdgbgdkfoeoppaaDoor.RecW
set_option linter.unusedVariables false
set_option maxRecDepth 100000

set_option maxHeartbeats 800000 in
theorem first_w (w : World) : Calls Tryd.prog 30 #[] w fun e w' => e = .returned (.bool true) ∧ Below w.heap.size w w' := by
  go_enter Tryd.func30, Tryd.ntmps30
  go_wp2_with fail
  refine (key_good 2 2 0 ⟨#[]⟩ _ (by unfold Bad; decide) (by decide)).mono ?_
  rintro e w1 ⟨v, rfl, hv, hb1⟩
  have z1 := hb1.size
  obtain ⟨a, cap, rfl, hr⟩ := ownsRow_slice hv
  have hr : Nums .u8 w1 a 4 cap [2, 0, 0, 2] := hr
  clear hv
  go_wp2_with fail
  have h4 := Row.fresh w1 #[.int .u8 2, .int .u8 0, .int .u8 0, .int .u8 2] 5 (0, 0) 4 rfl (by decide)
  refine (RefW.same_w a 4 cap [2, 0, 0, 2] _ 4 4 [2, 0, 0, 2] _ (hr.below ((Below.refl _ _).alloc (Nat.le_refl _) _)) h4).mono ?_
  rintro e w2 ⟨rfl, hb2⟩
  have hb := below_put hb1 z1 _ hb2
  go_wp2_with fail
  go_ret
  exact ⟨rfl, hb⟩

/-- the two errors of a key -/
structure Two (w : World) (E F : Addr) : Prop where
  range : Err.At w 0 E
  long : Err.At w 1 F
theorem Two.below {w w' : World} {E F : Addr} (h : Two w E F) (hb : Below w.heap.size w w') : Two w' E F := ⟨h.range.below hb, h.long.below hb⟩
theorem cast3 {k n i : Int} {s : ByteArray} (h : ¬ Bad k n i s) : ((k.toNat : Nat) : Int) = k ∧ ((n.toNat : Nat) : Int) = n ∧ ((i.toNat : Nat) : Int) = i := by
  unfold Bad at h; omega
/-- a place with no key -/
theorem key_no (k n i : Int) (s : ByteArray) (E F : Addr) (h : Bad k n i s ∨ 24 < s.size) : ∃ G, ∀ w, Two w E F →
    Calls Tryd.prog 31 #[P k n i s] w fun e w' => e = .returned (.tuple #[.slice none 0 0, SeeW.ev G]) ∧ Below w.heap.size w w' := by
  by_cases hb : Bad k n i s
  · exact ⟨E, fun w h => key_bad k n i s E w h.range hb⟩
  · exact ⟨F, fun w h' => key_long k n i s F w h'.long hb (by rcases h with h | h; exact absurd h hb; exact h)⟩
/-- any place -/
theorem key_out (k n i : Int) (s : ByteArray) (E F : Addr) (w : World) (h : Two w E F) :
    Calls Tryd.prog 31 #[P k n i s] w fun e w' => (∃ v G, e = .returned (.tuple #[v, G])) ∧ Below w.heap.size w w' := by
  by_cases hb : Bad k n i s ∨ 24 < s.size
  · obtain ⟨G, hG⟩ := key_no k n i s E F hb
    refine (hG w h).mono ?_
    rintro e w' ⟨rfl, hb⟩
    exact ⟨⟨_, _, rfl⟩, hb⟩
  · have h1 : ¬ Bad k n i s := fun x => hb (.inl x)
    obtain ⟨e1, e2, e3⟩ := cast3 h1
    have := key_good k.toNat n.toNat i.toNat s w (by rw [e1, e2, e3]; exact h1) (by omega)
    rw [e1, e2, e3] at this
    refine this.mono ?_
    rintro e w' ⟨v, rfl, hv, hb⟩
    exact ⟨⟨_, _, rfl⟩, hb⟩

set_option maxHeartbeats 1600000 in
theorem p_no (k n i : Int) (s : ByteArray) (k' n' i' : Int) (s' : ByteArray) (E F : Addr) (w : World) (hT : Two w E F) (h : Bad k n i s ∨ 24 < s.size) :
    Calls Tryd.prog 15 #[P k n i s, P k' n' i' s'] w fun e w' => e = .returned (.bool true) ∧ Below w.heap.size w w' := by
  obtain ⟨G, ck⟩ := key_no k n i s E F h
  clear h
  obtain ⟨p0, p1, p2, p3⟩ := new4 w (.int .i64 k) (.int .i64 n) (.int .i64 i) (.string s) 43
  obtain ⟨q0, q1, q2, q3⟩ := new4 (w.alloc (.cells #[.int .i64 k, .int .i64 n, .int .i64 i, .string s] 43)) (.int .i64 k') (.int .i64 n') (.int .i64 i') (.string s') 43
  replace p0 := cell?_alloc_old (.cells #[.int .i64 k', .int .i64 n', .int .i64 i', .string s'] 43) p0
  replace p1 := cell?_alloc_old (.cells #[.int .i64 k', .int .i64 n', .int .i64 i', .string s'] 43) p1
  replace p2 := cell?_alloc_old (.cells #[.int .i64 k', .int .i64 n', .int .i64 i', .string s'] 43) p2
  replace p3 := cell?_alloc_old (.cells #[.int .i64 k', .int .i64 n', .int .i64 i', .string s'] 43) p3
  have hz : (w.alloc (.cells #[.int .i64 k, .int .i64 n, .int .i64 i, .string s] 43)).heap.size = w.heap.size + 1 := by simp
  rw [hz] at q0 q1 q2 q3
  clear hz
  have c : Below w.heap.size w ((w.alloc (.cells #[.int .i64 k, .int .i64 n, .int .i64 i, .string s] 43)).alloc (.cells #[.int .i64 k', .int .i64 n', .int .i64 i', .string s'] 43)) := ((Below.refl _ _).alloc (Nat.le_refl _) _).alloc (by simp) _
  go_enter Tryd.func15, Tryd.ntmps15
  go_wp2_with fail
  generalize (w.alloc (.cells #[.int .i64 k, .int .i64 n, .int .i64 i, .string s] 43)).alloc (.cells #[.int .i64 k', .int .i64 n', .int .i64 i', .string s'] 43) = W at *
  refine (first_w _).mono ?_
  rintro e w1 ⟨rfl, hb1⟩
  replace p0 := kept hb1 p0
  replace p1 := kept hb1 p1
  replace p2 := kept hb1 p2
  replace p3 := kept hb1 p3
  replace q0 := kept hb1 q0
  replace q1 := kept hb1 q1
  replace q2 := kept hb1 q2
  replace q3 := kept hb1 q3
  replace c := c.trans (hb1.mono c.size)
  have hT1 := hT.below c
  clear hb1
  go_wp2_with fail
  refine (ck _ hT1).mono ?_
  rintro e w2 ⟨rfl, hb2⟩
  replace q0 := kept hb2 q0
  replace q1 := kept hb2 q1
  replace q2 := kept hb2 q2
  replace q3 := kept hb2 q3
  replace c := c.trans (hb2.mono c.size)
  have hT2 := hT.below c
  clear hb2
  go_wp2_with fail
  refine (key_out k' n' i' s' E F _ hT2).mono ?_
  rintro e w3 ⟨⟨v, G', rfl⟩, hb3⟩
  replace c := c.trans (hb3.mono c.size)
  go_wp2_with fail
  go_ret
  exact ⟨rfl, c⟩

set_option maxHeartbeats 1600000 in
theorem q_no (k n i : Nat) (s : ByteArray) (k' n' i' : Int) (s' : ByteArray) (E F : Addr) (w : World) (hT : Two w E F) (hp : ¬ Bad k n i s) (hs : s.size ≤ 24) (h : Bad k' n' i' s' ∨ 24 < s'.size) :
    Calls Tryd.prog 15 #[P k n i s, P k' n' i' s'] w fun e w' => e = .returned (.bool true) ∧ Below w.heap.size w w' := by
  obtain ⟨G, cq⟩ := key_no k' n' i' s' E F h
  have ck := fun w => key_good k n i s w hp hs
  clear h hp hs
  obtain ⟨p0, p1, p2, p3⟩ := new4 w (.int .i64 k) (.int .i64 n) (.int .i64 i) (.string s) 43
  obtain ⟨q0, q1, q2, q3⟩ := new4 (w.alloc (.cells #[.int .i64 k, .int .i64 n, .int .i64 i, .string s] 43)) (.int .i64 k') (.int .i64 n') (.int .i64 i') (.string s') 43
  replace p0 := cell?_alloc_old (.cells #[.int .i64 k', .int .i64 n', .int .i64 i', .string s'] 43) p0
  replace p1 := cell?_alloc_old (.cells #[.int .i64 k', .int .i64 n', .int .i64 i', .string s'] 43) p1
  replace p2 := cell?_alloc_old (.cells #[.int .i64 k', .int .i64 n', .int .i64 i', .string s'] 43) p2
  replace p3 := cell?_alloc_old (.cells #[.int .i64 k', .int .i64 n', .int .i64 i', .string s'] 43) p3
  have hz : (w.alloc (.cells #[.int .i64 k, .int .i64 n, .int .i64 i, .string s] 43)).heap.size = w.heap.size + 1 := by simp
  rw [hz] at q0 q1 q2 q3
  clear hz
  have c : Below w.heap.size w ((w.alloc (.cells #[.int .i64 k, .int .i64 n, .int .i64 i, .string s] 43)).alloc (.cells #[.int .i64 k', .int .i64 n', .int .i64 i', .string s'] 43)) := ((Below.refl _ _).alloc (Nat.le_refl _) _).alloc (by simp) _
  go_enter Tryd.func15, Tryd.ntmps15
  go_wp2_with fail
  generalize (w.alloc (.cells #[.int .i64 k, .int .i64 n, .int .i64 i, .string s] 43)).alloc (.cells #[.int .i64 k', .int .i64 n', .int .i64 i', .string s'] 43) = W at *
  refine (first_w _).mono ?_
  rintro e w1 ⟨rfl, hb1⟩
  replace p0 := kept hb1 p0
  replace p1 := kept hb1 p1
  replace p2 := kept hb1 p2
  replace p3 := kept hb1 p3
  replace q0 := kept hb1 q0
  replace q1 := kept hb1 q1
  replace q2 := kept hb1 q2
  replace q3 := kept hb1 q3
  replace c := c.trans (hb1.mono c.size)
  clear hb1
  go_wp2_with fail
  refine (ck _).mono ?_
  rintro e w2 ⟨v, rfl, hv, hb2⟩
  replace q0 := kept hb2 q0
  replace q1 := kept hb2 q1
  replace q2 := kept hb2 q2
  replace q3 := kept hb2 q3
  replace c := c.trans (hb2.mono c.size)
  have hT2 := hT.below c
  clear hb2 hv
  go_wp2_with fail
  refine (cq _ hT2).mono ?_
  rintro e w3 ⟨rfl, hb3⟩
  replace c := c.trans (hb3.mono c.size)
  go_wp2_with fail
  go_ret
  exact ⟨rfl, c⟩
end Go.Proofs.YtdgbgdkfoeoppaaDoor.recOrders
