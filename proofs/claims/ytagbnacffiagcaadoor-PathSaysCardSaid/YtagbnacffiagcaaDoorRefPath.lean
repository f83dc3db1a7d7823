/- The document's paths (breviaryref1): the walks of Texts, PathText, Split. -/
import Derived.Test.YtagbnacffiagcaaDoorPathSplit
import Derived.Test.YtagbnacffiagcaaDoorPathJoin
import Derived.Deep.RegionHeld3
namespace Go.Proofs.YtagbnacffiagcaaDoor.PathW
open Go Go.RowKit Go.Proofs.YtagbnacffiagcaaDoor.Mem Go.Proofs.YtagbnacffiagcaaDoor.SeeW
set_option linter.unusedVariables false
set_option maxRecDepth 100000

set_option maxHeartbeats 800000 in
/-- a copy of texts -/
theorem rtexts_w (a : Option Addr) (n cap : Nat) (xs : List ByteArray) (w : World) (hr : Texts w a n cap xs) (hn : n ≤ 1000000) :
    Calls Tryd.prog 89 #[.slice a n cap] w (Cloned w n xs) := by
  obtain ⟨hb1, hb2⟩ := hr.bound
  have HL := hid hr.len
  have HR := hid hr
  clear hr
  unfold Cloned
  go_enter Tryd.func89, Tryd.ntmps89
  go_wp2_with (at_make; refine wpList_mk0 elS rfl _ _ rfl w.heap.size _ _ _ n rfl rfl rfl (by omega) (by unfold maxLen; omega) (Nat.le_refl _) ?_; intro w0 hown0 hgrow0)
  have hb0 := below_growns hgrow0 (Nat.le_refl w.heap.size)
  go_loopw [3, 4] (fun v i wr => ∃ k : Nat, k ≤ n ∧ i = .int .i64 k ∧ wr.ownsRow w.heap.size 9 1 v k ((xs.take k).map Value.string) ∧ Below w.heap.size w wr) (fun _ i _ => n - (intOf i).toNat)
  case atStart => exact ⟨0, by omega, rfl, hown0, hb0⟩
  case round =>
    obtain ⟨k, hk, rfl, hown, hb⟩ := hrel
    by_cases hlt : k < n
    · have hkl : k < xs.length := by rw [HL.out]; exact hlt
      obtain ⟨b, off, rfl, hc⟩ := (HR.out.below hb).at hkl
      have HS := hid (show (xs.take (k + 1)).map Value.string = (xs.take k).map Value.string ++ [.string xs[k]] by rw [List.take_succ_eq_append_getElem hkl, List.map_append]; rfl)
      have hz := hb.size
      generalize xs[k] = c at hc HS
      clear HR hown0 hgrow0 hb0
      go_wp2_with (at_builtin; go_must (refine wpList_push elS rfl _ _ rfl w.heap.size u3 k _ rfl (hown.alloc _) wr.heap.size (.string c) rfl (by simp) rfl (by unfold maxLen; omega) (by omega) (by simp; omega) ?_); intro v' w1 hown1 hb1 _)
      go_roundw
      case rel => exact ⟨k + 1, by omega, by go_num, by rw [HS.out]; exact hown1, (hb.alloc hz _).trans hb1⟩
      case measure => simp [intOf]; omega
    · obtain rfl : k = n := by omega
      have HE := hid (show xs.take k = xs from List.take_of_length_le (by rw [HL.out]; exact Nat.le_refl _))
      rw [HE.out] at hown
      go_wp2
      go_ret
      exact ⟨_, rfl, hown, hb⟩

theorem join_snoc : ∀ (l : List (List UInt8)) (x : List UInt8), l ≠ [] → Lib.join (l ++ [x]) [47] = Lib.join l [47] ++ 47 :: x := by
  intro l
  induction l with
  | nil => intro x h; exact absurd rfl h
  | cons y r ih =>
    intro x _
    cases r with
    | nil => rw [show [y] ++ [x] = [y, x] from rfl, Path.join_cons2, Lib.join_one, Lib.join_one]
    | cons z r =>
      rw [show (y :: z :: r) ++ [x] = y :: z :: (r ++ [x]) from rfl, Path.join_cons2, Path.join_cons2]
      have := ih x (by simp)
      rw [show z :: (r ++ [x]) = (z :: r) ++ [x] from rfl, this]
      simp
/-- a path of the document's kind -/
abbrev Rt (v : Value) (sl : Bool) : Value := .agg #[v, .bool sl]
set_option maxHeartbeats 1600000 in
theorem rtext_w (a : Option Addr) (n cap : Nat) (xs : List ByteArray) (sl : Bool) (w : World) (h : Texts w a n cap xs) (hn : n ≤ 20) (h40 : ∀ x ∈ xs, x.size ≤ 40) :
    Calls Tryd.prog 31 #[Rt (.slice a n cap) sl] w fun e w' => ∃ s, e = .returned (.string s) ∧ s.data.toList = text xs sl ∧ Below w.heap.size w w' := by
  obtain ⟨c1, c2⟩ := h.bound
  have HL := hid h.len
  have q := new2 w (.slice a n cap) (.bool sl) 64
  have bx := (Below.refl w.heap.size w).alloc (Nat.le_refl _) (.cells #[.slice a n cap, .bool sl] 64)
  obtain ⟨q0, q1⟩ := q
  have hT := h.below bx
  go_enter Tryd.func31, Tryd.ntmps31
  go_wp2_with fail
  generalize w.alloc (.cells #[.slice a n cap, .bool sl] 64) = w1 at *
  go_loopw [3, 4] (fun sv iv wr => ∃ (k : Nat) (t : ByteArray), k ≤ n ∧ iv = .int .i64 (k : Int) ∧ sv = .string t ∧ t.data.toList = 47 :: Lib.join (ls (xs.take k)) [47] ∧ wr = w1) (fun _ iv _ => n - (intOf iv).toNat)
  case atStart => exact ⟨0, ⟨#[47]⟩, by omega, rfl, rfl, rfl, rfl⟩
  case round =>
    obtain ⟨k, t, hk, rfl, rfl, ht, rfl⟩ := hrel
    have hjl : t.size ≤ 1000 := by
      have h1 := Path.join_length_le 40 (ls (xs.take k)) fun z hz => by
        obtain ⟨y, hy, rfl⟩ := List.mem_map.1 hz
        have : y.data.toList.length = y.size := by rw [Array.length_toList]; rfl
        rw [this]
        exact h40 y (List.mem_of_mem_take hy)
      have l1 : t.data.toList.length = t.size := by rw [Array.length_toList]; rfl
      rw [← l1, ht, List.length_cons]
      rw [List.length_map, List.length_take] at h1
      have : min k xs.length ≤ 20 := by omega
      have : min k xs.length * (40 + 1) ≤ 20 * 41 := Nat.mul_le_mul this (Nat.le_refl _)
      omega
    by_cases hlt : k < n
    · have hkl : k < xs.length := by rw [HL.out]; exact hlt
      obtain ⟨b0, o0, rfl, hc0⟩ := hT.at hkl
      have HS := hid (List.take_succ_eq_append_getElem hkl)
      have hx40 := h40 _ (List.getElem_mem hkl)
      have HKL := hid (show k ≠ 0 → ls (xs.take k) ≠ [] by
        intro h0 e
        have := congrArg List.length e
        rw [List.length_map, List.length_take] at this
        have h2 : min k xs.length = 0 := this
        omega)
      generalize xs[k] = x at hc0 HS hx40
      have HT := hid ht
      clear h hT ht h40
      by_cases hk0 : k = 0
      · subst hk0
        rw [Nat.add_zero] at hc0
        have e0 : t.size + x.size ≤ 2000 := by omega
        go_wp2_with fail
        go_roundw
        case rel =>
          refine ⟨0 + 1, _, by omega, by go_num, rfl, ?_, trivial⟩
          rw [HS.out, app_list, HT.out]
          rw [List.take_zero, List.nil_append]
          show 47 :: Lib.join [] [47] ++ _ = 47 :: Lib.join [x.data.toList] [47]
          rw [Lib.join_one]
          rfl
        case measure => simp [intOf]; omega
      · have hd : decide ((0 : Int) < (k : Int)) = true := decide_eq_true (by omega)
        have e0 : t.size + (1 + x.size) ≤ 2000 := by omega
        go_wp2_with fail
        go_roundw
        case rel =>
          refine ⟨k + 1, _, by omega, by go_num, rfl, ?_, trivial⟩
          rw [HS.out, app_list, app_list, HT.out]
          show _ = 47 :: Lib.join ((xs.take k ++ [x]).map _) [47]
          rw [List.map_append]
          show _ = 47 :: Lib.join (ls (xs.take k) ++ [x.data.toList]) [47]
          rw [join_snoc _ _ (HKL.out hk0)]
          simp
        case measure => simp [intOf]; omega
    · obtain rfl : k = n := by omega
      rw [List.take_of_length_le (by rw [HL.out]; exact Nat.le_refl _)] at ht
      have HT := hid ht
      clear ht hT h
      cases sl
      · go_wp2_with fail
        go_ret
        exact ⟨_, rfl, by rw [HT.out]; unfold text; simp, bx⟩
      · go_wp2_with fail
        go_ret
        exact ⟨_, rfl, by rw [app_list, HT.out]; unfold text; rfl, bx⟩
/-- the result's own block -/
abbrev RR : Obj := .cells #[.slice none 0 0, .bool false] 64
theorem rsplit_none (a : Option Addr) (n cap : Nat) (xs : List ByteArray) (sl : Bool) (w : World) (hT : Texts w a n cap xs) (hx : xs = [] ∨ ∃ ys, xs = ys ++ [⟨#[46, 46]⟩]) :
    Calls Tryd.prog 30 #[Rt (.slice a n cap) sl] w fun e w' => e = .returned (.tuple #[Rt (.slice none 0 0) false, .string ⟨#[]⟩, .int .i64 114]) ∧ Below w.heap.size w w' := by
  obtain ⟨c1, c2⟩ := hT.bound
  have b1 := (Below.refl w.heap.size w).alloc (Nat.le_refl _) (.cells #[.slice a n cap, .bool sl] 64)
  have b2 := b1.alloc (by simp) RR
  rcases hx with rfl | ⟨ys, rfl⟩
  · have hl := hT.len
    have hn0 : n = 0 := by simpa using hl.symm
    subst hn0
    clear hT
    go_enter Tryd.func30, Tryd.ntmps30
    go_wp2
    refine bodyPost_ret (v := .tuple #[Rt (.slice none 0 0) false, .string ⟨#[]⟩, .int .i64 114]) (by simp [results, Tryd.results30, go_sem]) rfl ⟨rfl, b2⟩
  · have hl := hT.len
    rw [List.length_append, List.length_singleton] at hl
    obtain ⟨b0, o0, rfl, hc0⟩ := (hT.below b2).at (j := n - 1) (by simp; omega)
    have hlast : (ys ++ [(⟨#[46, 46]⟩ : ByteArray)])[n - 1]'(by simp; omega) = ⟨#[46, 46]⟩ := by
      have : n - 1 = ys.length := by omega
      simp [this]
    rw [hlast] at hc0
    have t1 : (n == 0) = false := by rw [beq_eq_false_iff_ne]; omega
    have t2 : ((n : Int) == 0) = false := by rw [beq_eq_false_iff_ne]; omega
    have t3 : 1 ≤ n := by omega
    clear hT
    go_enter Tryd.func30, Tryd.ntmps30
    go_wp2
    refine bodyPost_ret (v := .tuple #[Rt (.slice none 0 0) false, .string ⟨#[]⟩, .int .i64 114]) (by simp [results, Tryd.results30, go_sem]) rfl ⟨rfl, b2⟩

def RSplitTo (w : World) (n : Nat) (ys : List ByteArray) (x : ByteArray) (e : Ending) (w' : World) : Prop :=
  ∃ v, e = .returned (.tuple #[Rt v false, .string x, .int .i64 0]) ∧ w'.ownsRow w.heap.size 9 1 v n (ys.map Value.string) ∧ Below w.heap.size w w'

theorem rsplit_ok (a : Option Addr) (cap : Nat) (ys : List ByteArray) (x : ByteArray) (sl : Bool) (w : World) (hT : Texts w a (ys.length + 1) cap (ys ++ [x])) (hx : x ≠ ⟨#[46, 46]⟩) (hn : ys.length ≤ 100000) :
    Calls Tryd.prog 30 #[Rt (.slice a (ys.length + 1) cap) sl] w (RSplitTo w ys.length ys x) := by
  obtain ⟨c1, c2⟩ := hT.bound
  have b1 := (Below.refl w.heap.size w).alloc (Nat.le_refl _) (.cells #[.slice a (ys.length + 1) cap, .bool sl] 64)
  have b2 := b1.alloc (by simp) RR
  obtain ⟨b0, o0, rfl, hc0⟩ := (hT.below b2).at (j := ys.length) (by simp)
  have hlast : (ys ++ [x])[ys.length]'(by simp) = x := by simp
  rw [hlast] at hc0
  have hk := (hT.below b2).take (m := ys.length) (by omega)
  rw [List.take_left] at hk
  have hne := ba_ne hx
  rw [show (⟨#[46, 46]⟩ : ByteArray).toList = [46, 46] from by rw [Lib.toList_data]] at hne
  have t2 : ((ys.length : Int) + 1 == 0) = false := by rw [beq_eq_false_iff_ne]; omega
  have hb0 : b0 < w.heap.size := by
    obtain ⟨b', o', he, hc'⟩ := hT.at (j := ys.length) (by simp)
    cases he
    exact World.block_lt_of_cell? _ _ hc'
  clear hT hlast hx
  generalize hm : ys.length = m at *
  have f1 : IntKind.i64.wrap ((m : Int) + 1 - 1) = (m : Int) := by rw [IntKind.wrap_i64]; omega
  have f2 : (0 : Int) ≤ (m : Int) := by omega
  have f3 : (m : Int) ≤ (cap : Int) := by omega
  have f4 : (m : Int) < (m : Int) + 1 := by omega
  have f5 : (m : Int) + 1 - 1 = (m : Int) := by omega
  have f6 : ¬ cap = 0 := by omega
  have f9 : IntKind.i64.wrap (m : Int) = (m : Int) := by rw [IntKind.wrap_i64]; omega
  have f7 : m ≤ cap := by omega
  have f8 : ¬ 0 = cap := by omega
  go_enter Tryd.func30, Tryd.ntmps30
  go_wp2_with fail
  have s0 : ((w.alloc (.cells #[.slice (some ⟨b0, o0, none⟩) (m + 1) cap, .bool sl] 64)).alloc RR).cell? ⟨w.heap.size, 0, none⟩ = some (.slice (some ⟨b0, o0, none⟩) (m + 1) cap) := by simp
  have s2 : ((w.alloc (.cells #[.slice (some ⟨b0, o0, none⟩) (m + 1) cap, .bool sl] 64)).alloc RR).heap[w.heap.size + 1]? = some RR := alloc_at (by simp) _
  go_region_held3 (fun w' => w'.cell? ⟨w.heap.size, 0, none⟩ = some (.slice (some ⟨b0, o0, none⟩) (m + 1) cap) ∧ w'.cell? ⟨b0, o0 + m, none⟩ = some (.string x)) (first | exact ⟨s0, hc0⟩ | exact ⟨cell_set (cell_set s0 (by omega)) (by omega), cell_set (cell_set hc0 (by omega)) (by omega)⟩ | go_keep)
    ((go_at_call 89; refine (rtexts_w _ m cap ys _ (Texts.below hk (below_drewN (Below.refl _ _) _)) (by omega)).mono ?_; rintro e w3 ⟨v, rfl, own, hb3⟩; obtain ⟨va, vc, rfl, hT⟩ := texts_of own; replace s0 := Mem.kept hb3 s0; replace hc0 := Mem.kept hb3 hc0; replace s2 := (hb3.block (w.heap.size + 1) (by simp)).trans s2; obtain ⟨y1, y2, y3, y4⟩ := two s2))
  have hb4 : Below w.heap.size w w3 := (below_drewN b2 1).trans (hb3.mono (show w.heap.size ≤ _ by simp; omega))
  clear hb3
  have HO : Hid (w3.ownsRow (w.heap.size + 2) 9 1 (.slice va m vc) m (ys.map Value.string)) := hid (ownsRow_base own (by simp))
  clear own
  go_wp2
  refine bodyPost_ret (v := .tuple #[Rt (.slice va m vc) false, .string x, .int .i64 0]) (by simp [results, Tryd.results30, go_sem, y1, y2]) rfl ⟨_, rfl, ?_, ?_⟩
  · exact ownsRow_base (kept_set (kept_set HO.out (by omega) _ _) (by omega) _ _) (by omega)
  · refine (hb4.setCell (p := ⟨w.heap.size + 1, 0, none⟩) (Nat.le_succ _) _).setCell (p := ⟨w.heap.size + 1, 1, none⟩) (Nat.le_succ _) _
end Go.Proofs.YtagbnacffiagcaaDoor.PathW
