/- The keys of any place, and what any bytes say, whole; the chapter's examples. -/
import Derived.Test.YtdgbgdkfoeoppaaDoorRecKeyB
import Derived.Test.YtdgbgdkfoeoppaaDoorRecRefB
import Derived.Test.YtdgbgdkfoeoppaaDoorRecReadB
namespace Go.Proofs.YtdgbgdkfoeoppaaDoor.RecW
open Go Go.RowKit Go.Proofs.YtdgbgdkfoeoppaaDoor.Mem Go.Proofs.YtdgbgdkfoeoppaaDoor.RefW Go.Proofs.YtdgbgdkfoeoppaaDoor.Text
set_option linter.unusedVariables false
set_option maxRecDepth 100000

instance (k n i : Int) (s : ByteArray) : Decidable (Bad k n i s) := by unfold Bad; infer_instance
/-- a place's key: the error's number, the bytes -/
def keyA (k n i : Int) (s : ByteArray) : Nat × List Nat :=
  if Bad k n i s then (103, []) else if 24 < s.size then (115, []) else (0, keyL k.toNat n.toNat i.toNat (txt s))
theorem cast3 {k n i : Int} {s : ByteArray} (h : ¬ Bad k n i s) : ((k.toNat : Nat) : Int) = k ∧ ((n.toNat : Nat) : Int) = n ∧ ((i.toNat : Nat) : Int) = i := by
  unfold Bad at h; omega
theorem empties (k : IntKind) (w : World) : Nums k w none 0 0 [] := Nums.nil k w

theorem key_all (k n i : Int) (s : ByteArray) (bs : List Addr) (w : World) (hB : SeeW.Bs w bs) :
    Calls Tryd.prog 31 #[P k n i s] w fun e w' => (∃ a m cap E, e = .returned (.tuple #[.slice a m cap, E]) ∧ Nums .u8 w' a m cap (keyA k n i s).2 ∧ Why bs (keyA k n i s).1 E) ∧ Below w.heap.size w w' := by
  unfold keyA
  by_cases h : Bad k n i s
  · rw [if_pos h]
    obtain ⟨E, hE, hA⟩ := hB.2.2 2 _ rfl
    refine (key_bad k n i s E w hA h).mono ?_
    rintro e w' ⟨rfl, hb⟩
    exact ⟨⟨none, 0, 0, _, rfl, empties _ _, .inr ⟨2, E, hE, rfl, rfl⟩⟩, hb⟩
  · rw [if_neg h]
    by_cases hl : 24 < s.size
    · rw [if_pos hl]
      obtain ⟨E, hE, hA⟩ := hB.2.2 14 _ rfl
      refine (key_long k n i s E w hA h hl).mono ?_
      rintro e w' ⟨rfl, hb⟩
      exact ⟨⟨none, 0, 0, _, rfl, empties _ _, .inr ⟨14, E, hE, rfl, rfl⟩⟩, hb⟩
    · rw [if_neg hl]
      obtain ⟨e1, e2, e3⟩ := cast3 h
      have h' := h
      rw [← e1, ← e2, ← e3] at h'
      have := key_good k.toNat n.toNat i.toNat s w h' (by omega)
      rw [e1, e2, e3] at this
      refine this.mono ?_
      rintro e w' ⟨v, rfl, hv, hb⟩
      obtain ⟨a, cap, rfl, hr⟩ := ownsRow_slice hv
      exact ⟨⟨a, _, cap, _, rfl, hr, .inl ⟨rfl, rfl⟩⟩, hb⟩

theorem rkey_all (k n i : Int) (s : ByteArray) (w : World) :
    Calls Tryd.prog 32 #[.int .i64 k, .int .i64 n, .int .i64 i, .string s] w fun e w' => (∃ a m cap, e = .returned (.tuple #[.slice a m cap, .int .i64 ((keyA k n i s).1 : Nat)]) ∧ Nums .u8 w' a m cap (keyA k n i s).2) ∧ Below w.heap.size w w' := by
  unfold keyA
  by_cases h : Bad k n i s
  · rw [if_pos h]
    refine (rkey_bad k n i s w h).mono ?_
    rintro e w' ⟨rfl, hb⟩
    exact ⟨⟨none, 0, 0, rfl, empties _ _⟩, hb⟩
  · rw [if_neg h]
    by_cases hl : 24 < s.size
    · rw [if_pos hl]
      refine (rkey_long k n i s w h hl).mono ?_
      rintro e w' ⟨rfl, hb⟩
      exact ⟨⟨none, 0, 0, rfl, empties _ _⟩, hb⟩
    · rw [if_neg hl]
      obtain ⟨e1, e2, e3⟩ := cast3 h
      have h' := h
      rw [← e1, ← e2, ← e3] at h'
      have := rkey_good k.toNat n.toNat i.toNat s w h' (by omega)
      rw [e1, e2, e3] at this
      refine this.mono ?_
      rintro e w' ⟨v, rfl, hv, hb⟩
      obtain ⟨a, cap, rfl, hr⟩ := ownsRow_slice hv
      exact ⟨⟨a, _, cap, rfl, hr⟩, hb⟩

theorem is_all (bs : List Addr) (w : World) (h : SeeW.Bs w bs) (c : Nat) (E : Value) (hE : Why bs c E) (d : Int) :
    Calls Tryd.prog 20 #[E, .int .i64 d] w fun e w' => e = .returned (.bool ((c : Int) == d)) ∧ Below w.heap.size w w' := by
  rcases hE with ⟨rfl, rfl⟩ | ⟨j, a, hj, rfl, rfl⟩
  · exact SeeW.is_nil w d
  · have := SeeW.is_w bs w h j a hj d
    rw [show ((101 + j : Nat) : Int) = 101 + (j : Int) by omega]
    exact this

set_option maxHeartbeats 800000 in
theorem first_w (w : World) : Calls Tryd.prog 30 #[] w fun e w' => e = .returned (.bool true) ∧ Below w.heap.size w w' := by
  go_enter Tryd.func30, Tryd.ntmps30
  go_wp2_with fail
  refine (key_good 2 2 0 ⟨#[]⟩ _ (by decide) (by decide)).mono ?_
  rintro e w1 ⟨v, rfl, hv, hb1⟩
  have z1 := hb1.size
  obtain ⟨a, cap, rfl, hr⟩ := ownsRow_slice hv
  have hr : Nums .u8 w1 a 4 cap [2, 0, 0, 2] := hr
  clear hv
  go_wp2_with fail
  have h4 := Row.fresh w1 #[.int .u8 2, .int .u8 0, .int .u8 0, .int .u8 2] 5 (0, 0) 4 rfl (by decide)
  refine (RefW.same_w a 4 cap [2, 0, 0, 2] _ 4 4 [2, 0, 0, 2] _ (hr.below ((Below.refl _ _).alloc (Nat.le_refl _) _)) h4).mono ?_
  rintro e w2 ⟨rfl, hb2⟩
  have hb := below_put hb1 z1 _ hb2
  go_wp2_with fail
  go_ret
  exact ⟨rfl, hb⟩
end Go.Proofs.YtdgbgdkfoeoppaaDoor.RecW
