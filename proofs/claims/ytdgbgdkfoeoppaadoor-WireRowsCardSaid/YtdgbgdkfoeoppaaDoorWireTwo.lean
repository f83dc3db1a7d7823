/- Readers apart; many numbers put one behind the other. -/
import Derived.Test.YtdgbgdkfoeoppaaDoorWireBad
import Derived.Test.YtdgbgdkfoeoppaaDoorInts
namespace Go.Proofs.YtdgbgdkfoeoppaaDoor.Wire
open Go Go.RowKit Go.Proofs.YtdgbgdkfoeoppaaDoor.Mem Go.Proofs.YtdgbgdkfoeoppaaDoor.RefW Go.Proofs.YtdgbgdkfoeoppaaDoor.Text
set_option linter.unusedVariables false
set_option maxRecDepth 100000

/-- a new reader, and where its bytes lie -/
theorem new_w2 (a : Option Addr) (n cap : Nat) (l : List Nat) (w : World) (hr : Nums .u8 w a n cap l) (hl : ∀ x ∈ l, x < 256) (hn : n ≤ 100000) :
    Calls Tryd.prog 39 #[.slice a n cap] w fun e w' => (∃ g b c, e = .returned (.pointer (some ⟨g, 0, none⟩)) ∧ w.heap.size ≤ g ∧ (∀ b' o, b = some ⟨b', o, none⟩ → w.heap.size ≤ b' ∧ b' < w'.heap.size) ∧ Rd w' g b n c l 0 .nilIface) ∧ Below w.heap.size w w' := by
  go_enter Tryd.func39, Tryd.ntmps39
  go_wp2_with fail
  refine (clone_w a n cap l _ hr (by omega)).mono ?_
  rintro e w1 ⟨v, rfl, hv, hb1⟩
  obtain ⟨b, c, rfl, hx⟩ := ownsRow_slice hv
  have hap : ∀ b' o, b = some ⟨b', o, none⟩ → w.heap.size ≤ b' ∧ b' < w1.heap.size := fun b' o e => by
    subst e
    exact hv.lt b' (by rcases hv.2 with ⟨h, _⟩ | ⟨g, c', cur, h, _⟩ <;> cases h <;> rfl)
  go_wp2_with fail
  go_ret
  refine ⟨⟨w1.heap.size, b, c, rfl, hb1.size, fun b' o e => ⟨(hap b' o e).1, by have := (hap b' o e).2; simp; omega⟩, ⟨heap_alloc_new _ _, Nums.below (k := .u8) hx ((Below.refl _ _).alloc (Nat.le_refl _) _), hl, Nat.zero_le _, hn, fun b' o e => Nat.ne_of_lt (hap b' o e).2⟩⟩, hb1.alloc hb1.size _⟩

/-- a reader beside another one -/
theorem Rd.on {w w' : World} {g g' : Nat} {a : Option Addr} {n cap : Nat} {l : List Nat} {p : Nat} {E : Value} (h : Rd w g a n cap l p E) (k : w.grownBy w' (some g')) (h1 : g ≠ g') (h2 : ∀ b o, a = some ⟨b, o, none⟩ → b ≠ g') : Rd w' g a n cap l p E := by
  refine ⟨?_, ?_, h.byte, h.le, h.small, h.apart⟩
  · rw [k.block g h.lt (fun e => h1 (by cases e; rfl))]; exact h.blk
  · exact Row.keep h.row fun b o he hl => k.block b hl (fun e => h2 b o he (by cases e; rfl))

/-- numbers one behind the other -/
def encAll : List Int → List Nat
  | [] => []
  | n :: r => enc (zig n) ++ encAll r
theorem encAll_append (x y : List Int) : encAll (x ++ y) = encAll x ++ encAll y := by
  induction x with
  | nil => rfl
  | cons n x ih => simp [encAll, ih]
theorem encAll_succ {zs : List Int} {j : Nat} (h : j < zs.length) : encAll (zs.take (j + 1)) = encAll (zs.take j) ++ enc (zig zs[j]) := by
  rw [List.take_succ_eq_append_getElem h, encAll_append]
  simp [encAll]
theorem encAll_split (zs : List Int) (j : Nat) : encAll zs = encAll (zs.take j) ++ encAll (zs.drop j) := by
  rw [← encAll_append, List.take_append_drop]
theorem encAll_byte (zs : List Int) : ∀ x ∈ encAll zs, x < 256 := by
  induction zs with
  | nil => intro x hx; simp [encAll] at hx
  | cons n zs ih =>
    intro x hx
    rcases List.mem_append.1 hx with hx | hx
    · exact enc_byte _ x hx
    · exact ih x hx
theorem encAll_len (zs : List Int) (h : ∀ x ∈ zs, -9223372036854775808 ≤ x ∧ x ≤ 9223372036854775807) : zs.length ≤ (encAll zs).length ∧ (encAll zs).length ≤ 10 * zs.length := by
  induction zs with
  | nil => simp [encAll]
  | cons n zs ih =>
    have h1 := enc_pos (zig n)
    have h2 := enc_ten (zig_lt (h n (by simp)))
    have h3 := ih fun x hx => h x (by simp [hx])
    simp only [encAll, List.length_append, List.length_cons]
    omega
theorem dec_at (zs : List Int) (t : List Nat) (j : Nat) (h : j < zs.length) (hz : ∀ x ∈ zs, -9223372036854775808 ≤ x ∧ x ≤ 9223372036854775807) :
    dec 0 0 ((encAll zs ++ t).drop (encAll (zs.take j)).length) = .num (zig zs[j]) (enc (zig zs[j])).length := by
  rw [encAll_split zs j, List.append_assoc, List.drop_left, List.drop_eq_getElem_cons h, encAll, List.append_assoc,
    dec_enc _ 0 0 _ (.inl rfl) (by simpa using zig_lt (hz _ (List.getElem_mem h))) (by decide)]
  simp
end Go.Proofs.YtdgbgdkfoeoppaaDoor.Wire
