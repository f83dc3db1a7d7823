/- The walk of package span's Lay. -/
import Derived.Test.YtdgcjdknicbaeaaBytesW
import Derived.Deep.CutRange
import Derived.Laws.CopyOwn
namespace Go.Proofs.Ytdgcjdknicbaeaa.SpanW
open Go Go.RowKit Go.Proofs.Ytdgcjdknicbaeaa.Mem Go.Proofs.Ytdgcjdknicbaeaa.RefW
set_option linter.unusedVariables false
set_option maxRecDepth 100000

theorem is_w (i f t : Nat) (w : World) (h1 : f ≤ t) (h2 : t ≤ 256) :
    Calls Try.prog 9 #[.agg #[.int .i64 i, .int .i64 f, .int .i64 t]] w fun e w' => e = .returned (.bool true) ∧ Below w.heap.size w w' := by
  have d1 : decide ((t : Int) ≤ 256) = true := by rw [decide_eq_true_eq]; omega
  have d2 : decide ((f : Int) ≤ (t : Int)) = true := by rw [decide_eq_true_eq]; omega
  go_enter Try.func9, Try.ntmps9
  go_wp2
  go_ret
  exact ⟨rfl, (Below.refl _ _).alloc (Nat.le_refl _) _⟩

theorem own_heap {w : World} {base g n : Nat} {l : List Nat} (h : OwnN w base 5 .u8 g n n l) : w.heap[g]? = some (.cells (nums .u8 l).toArray 5 (0, 0)) := by
  have hl := h.len
  rcases h.2 with ⟨e, _⟩ | ⟨g', c, cur, e, _, hg, _, _, hcs, htk⟩
  · cases e
  · cases e
    rw [hg]
    congr 2
    apply Array.ext'
    rw [List.take_of_length_le (by rw [Array.length_toList, hcs]; omega)] at htk
    exact htk
theorem heap_own {w : World} {base g : Nat} {l : List Nat} (hg : w.heap[g]? = some (.cells (nums .u8 l).toArray 5 (0, 0))) (hb : base ≤ g) (hl : l.length ≤ 100000) : OwnN w base 5 .u8 g l.length l.length l :=
  ⟨by simp [nums], .inr ⟨g, l.length, (nums .u8 l).toArray, rfl, hb, hg, Nat.le_refl _, by unfold maxLen; omega, by simp [nums], by simp [nums, List.take_of_length_le]⟩⟩
theorem splice_nums (l m : List Nat) (i : Nat) : splice (nums .u8 l) i (nums .u8 m) = nums .u8 (splice l i m) := by
  simp [splice, nums, List.map_take, List.map_drop]

theorem src {w : World} {a : Option Addr} {n c : Nat} {l : List Nat} (h : Nums .u8 w a n c l) (hn : 0 < n) : ∃ ad, a = some ad ∧ ∀ j v, (nums .u8 l)[j]? = some v → w.cell? (ad.add j) = some v := by
  obtain ⟨b0, o0, rfl, _⟩ := h.at (j := 0) (by rw [h.len]; exact hn)
  exact ⟨_, rfl, fun j v hj => by rw [Addr.add_lit]; exact Row.cell h hj⟩
theorem new3 (w : World) (x y z : Value) (t : TypeId) : (w.alloc (.cells #[x, y, z] t)).cell? ⟨w.heap.size, 0, none⟩ = some x ∧ (w.alloc (.cells #[x, y, z] t)).cell? ⟨w.heap.size, 1, none⟩ = some y ∧ (w.alloc (.cells #[x, y, z] t)).cell? ⟨w.heap.size, 2, none⟩ = some z := by
  refine ⟨?_, ?_, ?_⟩ <;> simp

set_option maxHeartbeats 3200000 in
/-- a block with some bytes of it -/
theorem lay_w (a : Option Addr) (ca : Nat) (lo : List Nat) (i f t : Nat) (b : Option Addr) (k cb : Nat) (lb : List Nat) (w : World) (ho : Nums .u8 w a 256 ca lo) (hb : Nums .u8 w b k cb lb) (h1 : f + k = t) (h2 : t ≤ 256) (h3 : f < 256) :
    Calls Try.prog 8 #[.slice a 256 ca, .agg #[.int .i64 i, .int .i64 f, .int .i64 t], .slice b k cb] w fun e w' => ∃ g, e = .returned (.slice (some ⟨g, 0, none⟩) 256 256) ∧ OwnN w' w.heap.size 5 .u8 g 256 256 (splice lo f lb) ∧ Below w.heap.size w w' := by
  have hlo := ho.len
  have hlb := hb.len
  go_enter Try.func8, Try.ntmps8
  obtain ⟨p0, p1, p2⟩ := new3 w (.int .i64 i) (.int .i64 f) (.int .i64 t) 28
  have b0 := (Below.refl w.heap.size w).alloc (Nat.le_refl _) (.cells #[.int .i64 i, .int .i64 f, .int .i64 t] 28)
  have ho0 := ho.below b0
  have hb0 := hb.below b0
  have hz0 : (w.alloc (.cells #[.int .i64 i, .int .i64 f, .int .i64 t] 28)).heap.size = w.heap.size + 1 := by simp
  go_upto_region 2 with (at_make; go_must (refine wpList_mkn elU8 rfl _ _ rfl (w.heap.size + 1) _ _ _ _ 256 rfl rfl rfl rfl (by decide) (by decide) (by simp) ?_); intro w1 hown1 hg1)
  rw [made_nums, hz0] at hown1
  have H1 := own_heap hown1
  have g1 := below_growns hg1 (Nat.le_refl _)
  have c1 : Below w.heap.size w w1 := b0.trans (g1.mono (by omega))
  replace p1 := kept g1 p1
  replace p2 := kept g1 p2
  have ho1 := ho0.below g1
  have hb1 := hb0.below g1
  obtain ⟨oa, rfl, hsrc⟩ := src ho1 (by decide)
  replace p0 := kept g1 p0
  clear hown1 hg1 ho0 hb0 b0 ho hb1
  go_wp2_with (refine wpList_copy_splice (o := ⟨some 11, _, _, _, _, _⟩) rfl (.tmp 9) (.tmp 10) _ _ rfl 5 Try.underlying22 (by kernel_rfl) _ _ 256 256 256 ca rfl rfl (w.heap.size + 1) 0 (nums .u8 (List.replicate 256 0)) 5 H1 (nums .u8 lo) (by rw [nums_length, hlo]; rfl) (fun _ => ⟨rfl, oa, rfl, hsrc⟩) (by rw [nums_length, nums_length, hlo]; decide) (nums_oneCell _ _) (w.heap.size + 1) w1 (Below.refl _ _) (Nat.le_refl _) ?_; intro w2 H2 hb2; replace p0 := keep hb2 p0 (by omega); replace p1 := keep hb2 p1 (by omega); replace p2 := keep hb2 p2 (by omega); replace H2 := H2.out; rw [splice_nums, show splice (List.replicate 256 0) 0 lo = lo by simp [splice, hlo]] at H2)
  have z2 := hb2.size
  have z1 := g1.size
  rw [hz0] at z1
  refine (is_w i f t _ (by omega) h2).mono ?_
  rintro e w3 ⟨rfl, hb3⟩
  have hb03 : Below w.heap.size w w3 := c1.trans ((hb2.mono (by omega)).trans (hb3.mono (by omega)))
  have hb13 : Below (w.heap.size + 1) w1 w3 := hb2.trans (hb3.mono (by omega))
  have H3 : w3.heap[w.heap.size + 1]? = some (.cells (nums .u8 lo).toArray 5 (0, 0)) := (hb3.block _ (Array.getElem?_eq_some_iff.1 H2).1).trans H2
  replace p0 := kept hb3 p0
  replace p1 := kept hb3 p1
  replace p2 := kept hb3 p2
  have hb4 := hb.below hb03
  have hkk : 0 < (nums .u8 lb).length → ∃ ad, b = some ad ∧ ∀ j v, (nums .u8 lb)[j]? = some v → w3.cell? (ad.add j) = some v := fun h => src hb4 (by rw [nums_length, hlb] at h; exact h)
  have HS := hid hkk
  clear hkk hb hb4 hsrc ho1 H1 H2 hb2 hb3 g1
  subst h1
  have hne : ¬ 256 = f := by omega
  have hne2 : ¬ f = 256 := by omega
  go_wp2_with (refine wpList_copy_splice (o := ⟨some 21, _, _, _, _, _⟩) rfl (.tmp 19) (.tmp 20) _ _ rfl 5 Try.underlying22 (by kernel_rfl) _ _ (f + k - f) _ k cb rfl rfl (w.heap.size + 1) f (nums .u8 lo) 5 H3 (nums .u8 lb) (by rw [nums_length, hlb, Nat.add_sub_cancel_left]; exact (Nat.min_self k).symm) (fun h => ⟨rfl, HS.out h⟩) (by rw [nums_length, nums_length, hlb, hlo]; omega) (nums_oneCell _ _) (w.heap.size + 1) w1 hb13 (Nat.le_refl _) ?_; intro w4 H4 hb5; replace H4 := H4.out; rw [splice_nums] at H4)
  have hlen : (splice lo f lb).length = 256 := by rw [length_splice _ _ _ (by omega), hlo]
  have hown := heap_own H4 (Nat.le_succ w.heap.size) (by omega)
  rw [hlen] at hown
  go_ret
  exact ⟨_, rfl, hown, c1.trans (hb5.mono (by omega))⟩
end Go.Proofs.Ytdgcjdknicbaeaa.SpanW
