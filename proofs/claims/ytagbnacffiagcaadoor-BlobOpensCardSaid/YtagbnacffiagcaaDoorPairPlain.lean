/- Plain facts: bytes turned are others, and so is their sum; a block of some bytes. -/
import Derived.Test.YtagbnacffiagcaaDoorCrcPlainB
namespace Go.Proofs.YtagbnacffiagcaaDoor.Crc
open Go

theorem turned_ne {l : List Nat} {p t : Nat} (hl : p + 4 ≤ l.length) (h0 : t ≠ 0) (ht : t < 4294967296) : turned l (p : Int) t ≠ l := by
  intro e
  have hb : ∀ k, k < 4 → byteOf t k = 0 := by
    intro k hk
    have h1 := turnK_get l p t 4 (p + k)
    rw [show turnK l (p : Int) t 4 = l from e] at h1
    have hlt : p + k < l.length := by omega
    rw [List.getElem?_eq_getElem hlt] at h1
    simp only [Option.map_some] at h1
    rw [if_pos (by omega), Nat.add_sub_cancel_left] at h1
    have h2 := Option.some.inj h1
    have h3 := congrArg (· ^^^ l[p + k]) h2
    simp only [Nat.xor_self] at h3
    rw [Nat.xor_comm l[p + k] (byteOf t k), Nat.xor_assoc, Nat.xor_self, Nat.xor_zero] at h3
    exact h3.symm
  have b0 := hb 0 (by omega)
  have b1 := hb 1 (by omega)
  have b2 := hb 2 (by omega)
  have b3 := hb 3 (by omega)
  unfold byteOf at b0 b1 b2 b3
  simp only [Nat.shiftRight_eq_div_pow] at b0 b1 b2 b3
  simp at b0 b1 b2 b3
  omega
theorem turned_sum_ne {l : List Nat} (hb : Bytes l) {p t : Nat} (hl : p + 4 ≤ l.length) (h0 : t ≠ 0) (ht : t < 4294967296) : sum (turned l (p : Int) t) ≠ sum l := by
  intro e
  exact turned_ne hl h0 ht ((turned_sum hb p t).1 e).symm

/-- a block of some bytes -/
def pad (l : List Nat) : List Nat := l ++ List.replicate (256 - l.length) 0
theorem pad_length {l : List Nat} (h : l.length ≤ 256) : (pad l).length = 256 := by
  unfold pad; rw [List.length_append, List.length_replicate]; omega
theorem pad_bytes {l : List Nat} (h : Bytes l) : Bytes (pad l) := by
  intro x hx
  rcases List.mem_append.1 hx with hx | hx
  · exact h x hx
  · rw [(List.mem_replicate.1 hx).2]; decide
theorem zeros_bytes (n : Nat) : Bytes (List.replicate n 0) := by
  intro x hx
  rw [(List.mem_replicate.1 hx).2]; decide
/-- one more byte laid -/
theorem pad_set {l : List Nat} {k : Nat} (h : k < l.length) (h2 : l.length ≤ 256) : (l.take k ++ List.replicate (256 - k) 0).set k l[k] = l.take (k + 1) ++ List.replicate (256 - (k + 1)) 0 := by
  have e : List.replicate (256 - k) (0 : Nat) = 0 :: List.replicate (256 - (k + 1)) 0 := by
    rw [show 256 - k = (256 - (k + 1)) + 1 by omega, List.replicate_succ]
  have hl : (l.take k).length = k := by rw [List.length_take]; omega
  rw [e, List.set_append_right _ _ (by omega), hl, Nat.sub_self, List.set_cons_zero, List.take_succ_eq_append_getElem h, List.append_assoc]
  rfl
end Go.Proofs.YtagbnacffiagcaaDoor.Crc
