/- A block's bytes, filled up; what is copied. -/
import Derived.Test.YtagbnacffiagcaaDoorRefWalk
import Derived.Test.YtagbnacffiagcaaDoorPairPlain
import Derived.Laws.CopyOwn
namespace Go.Proofs.YtagbnacffiagcaaDoor.BlobW
open Go Go.RowKit Go.Proofs.YtagbnacffiagcaaDoor.Mem
set_option linter.unusedVariables false
set_option maxRecDepth 100000

/-- a slice of a block's bytes, new -/
def NewBlock (w : World) (l : List Nat) (e : Ending) (w' : World) : Prop := ∃ g cap, e = .returned (.slice (some ⟨g, 0, none⟩) 256 cap) ∧ Nums .u8 w' (some ⟨g, 0, none⟩) 256 cap l ∧ w.heap.size ≤ g ∧ Below w.heap.size w w'
set_option maxHeartbeats 1600000 in
theorem full_w (a : Option Addr) (n cap : Nat) (l : List Nat) (w : World) (h0 : Nums .u8 w a n cap l) (hn : n ≤ 256) :
    Calls Tryd.prog 64 #[.slice a n cap] w (NewBlock w (Crc.pad l)) := by
  have hll := h0.len
  have HL := hid hll
  obtain ⟨cb1, cb2⟩ := h0.bound
  go_enter Tryd.func64, Tryd.ntmps64
  go_wp2_with (at_make; go_must (refine wpList_mkn RefW.elU8 rfl _ _ rfl w.heap.size _ _ _ _ 256 rfl rfl rfl rfl (by decide) (by decide) (Nat.le_refl _) ?_); intro w2 own2 hg2)
  rw [RefW.made_nums] at own2
  have g2 := below_growns hg2 (Nat.le_refl _)
  clear hg2
  go_loopw [4] (fun i wr => ∃ k : Nat, k ≤ n ∧ i = .int .i64 k ∧ OwnN wr w.heap.size 5 .u8 w.heap.size 256 256 (l.take k ++ List.replicate (256 - k) 0) ∧ Below w.heap.size w wr) (fun i _ => n - (intOf i).toNat)
  case atStart => exact ⟨0, by omega, rfl, by simpa using own2, g2⟩
  case round =>
    clear own2 g2
    obtain ⟨k, hk, rfl, hown, hb⟩ := hrel
    by_cases hlt : k < n
    · have hkl : k < l.length := by rw [HL.out]; exact hlt
      have HF := hid (Crc.pad_set hkl (by rw [HL.out]; exact hn))
      obtain ⟨b0, o0, rfl, hc0⟩ := (h0.below hb).at hkl
      generalize l[k] = x at hc0 HF
      have hlen : (l.take k ++ List.replicate (256 - k) 0).length = 256 := OwnN.len hown
      obtain ⟨y, hy⟩ : ∃ y, wr.cell? ⟨w.heap.size, k, none⟩ = some y := ⟨_, OwnN.cell hown (j := k) (by omega)⟩
      have hf := World.ownsRow.frozenAt hown k
      have k256 : (k : Int) < 256 := by omega
      have HO := hid hown
      clear hown hlen hll
      go_wp2
      go_roundw
      case rel => exact ⟨k + 1, by omega, by go_num, by rw [← HF.out]; exact OwnN.set HO.out k x, hb.setCell (Nat.le_refl _) _⟩
      case measure => simp [intOf]; omega
    · obtain rfl : k = n := by omega
      rw [List.take_of_length_le (by omega)] at hown
      have HO := hid hown
      have e : l ++ List.replicate (256 - k) 0 = Crc.pad l := by unfold Crc.pad; rw [hll]
      clear hown
      go_wp2
      go_ret
      rw [e] at HO
      exact ⟨_, _, rfl, OwnN.nums HO.out, Nat.le_refl _, hb⟩

theorem own_heap {w : World} {base g n : Nat} {l : List Nat} (h : OwnN w base 5 .u8 g n n l) : w.heap[g]? = some (.cells (nums .u8 l).toArray 5 (0, 0)) := by
  have hl := h.len
  rcases h.2 with ⟨e, _⟩ | ⟨g', c, cur, e, _, hg, _, _, hcs, htk⟩
  · cases e
  · cases e
    rw [hg]
    congr 2
    apply Array.ext'
    rw [List.take_of_length_le (by rw [Array.length_toList, hcs]; omega)] at htk
    exact htk
theorem heap_own {w : World} {base g : Nat} {l : List Nat} (hg : w.heap[g]? = some (.cells (nums .u8 l).toArray 5 (0, 0))) (hb : base ≤ g) (hl : l.length = 256) : OwnN w base 5 .u8 g 256 256 l :=
  ⟨by simp [nums, hl], .inr ⟨g, 256, (nums .u8 l).toArray, rfl, hb, hg, Nat.le_refl _, by unfold maxLen; omega, by simp [nums, hl], by rw [List.take_of_length_le (by simp [nums, hl])]⟩⟩
theorem splice_nums (l m : List Nat) (i : Nat) : splice (nums .u8 l) i (nums .u8 m) = nums .u8 (splice l i m) := by
  simp [splice, nums, List.map_take, List.map_drop]

theorem src {w : World} {a : Option Addr} {n c : Nat} {l : List Nat} (h : Nums .u8 w a n c l) (hn : 0 < n) : ∃ ad, a = some ad ∧ ∀ j v, (nums .u8 l)[j]? = some v → w.cell? (ad.add j) = some v := by
  obtain ⟨b0, o0, rfl, _⟩ := h.at (j := 0) (by rw [h.len]; exact hn)
  exact ⟨_, rfl, fun j v hj => by rw [Addr.add_lit]; exact Row.cell h hj⟩
theorem splice_pad {l : List Nat} : splice (List.replicate 256 0) 0 l = Crc.pad l := by
  unfold splice Crc.pad
  rw [List.take_zero, List.nil_append, List.drop_replicate, Nat.zero_add]
end Go.Proofs.YtagbnacffiagcaaDoor.BlobW
