/- The walk of path.Split. -/
import Derived.Test.YtagbnacffiagcaaDoorPathText
import Derived.Deep.RegionHeld3
namespace Go.Proofs.YtagbnacffiagcaaDoor.PathW
open Go Go.RowKit Go.Proofs.YtagbnacffiagcaaDoor.Mem Go.Proofs.YtagbnacffiagcaaDoor.SeeW
set_option linter.unusedVariables false
set_option maxRecDepth 100000

theorem Texts.take {w : World} {a : Option Addr} {n cap : Nat} {xs : List ByteArray} (h : Texts w a n cap xs) {m : Nat} (hm : m ≤ n) : Texts w a m cap (xs.take m) := by
  have hl := h.len
  obtain ⟨h1, h2, h3, h4, h5⟩ := h
  refine ⟨by rw [List.length_map, List.length_take]; omega, by omega, h3, h4, fun j u hj => ?_⟩
  refine h5 j u ?_
  rw [List.map_take, List.getElem?_take] at hj
  split at hj
  · exact hj
  · cases hj

/-- a copy of texts -/
def Cloned (w : World) (n : Nat) (xs : List ByteArray) (e : Ending) (w' : World) : Prop :=
  ∃ v, e = .returned v ∧ w'.ownsRow w.heap.size 9 1 v n (xs.map Value.string) ∧ Below w.heap.size w w'
theorem clone_w (a : Option Addr) (n cap : Nat) (xs : List ByteArray) (w : World) (h : Texts w a n cap xs) (hn : n ≤ 1000000) :
    Calls Tryd.prog 88 #[.slice a n cap] w (Cloned w n xs) := by
  have hl := h.len
  cases a with
  | none =>
    have hc := h.2.2.2.1 rfl
    have hn0 : n = 0 := by have := h.2.1; omega
    subst hn0
    obtain rfl := List.eq_nil_of_length_eq_zero hl
    refine (Tryd.slices_Clone_string_nil 0 cap w).mono ?_
    rintro e w' ⟨rfl, rfl⟩
    exact ⟨_, rfl, World.ownsRow_nil _ _ _ _, Below.refl _ _⟩
  | some ad =>
    rcases Nat.eq_zero_or_pos n with hn0 | hn0
    · subst hn0
      obtain rfl := List.eq_nil_of_length_eq_zero hl
      refine (Tryd.slices_Clone_string_zero ad cap w).mono ?_
      rintro e w' ⟨v, rfl, ho, _, hb⟩
      exact ⟨v, rfl, ho, hb⟩
    · obtain ⟨b, o, he, hc⟩ := h.at (j := 0) (by omega)
      cases he
      refine (Tryd.slices_Clone_string b o n cap xs w (by omega) (by omega) ?_).mono ?_
      · intro j hj
        obtain ⟨b', o', he, hc'⟩ := h.at hj
        cases he
        rw [hc', List.getD_eq_getElem?_getD, List.getElem?_eq_getElem hj]
        rfl
      · rintro e w' ⟨v, rfl, ho, _, hb⟩
        rw [List.take_of_length_le (by omega)] at ho
        exact ⟨v, rfl, ho, hb⟩

theorem cell_set {w : World} {b b' j o : Nat} {v u : Value} (h : w.cell? ⟨b', o, none⟩ = some u) (hne : b ≠ b') : (w.setCell ⟨b, j, none⟩ v).cell? ⟨b', o, none⟩ = some u := by
  rw [World.cell?_setCell_other w (a := ⟨b, j, none⟩) (b := ⟨b', o, none⟩) (v := v) (fun e => hne (congrArg Addr.block e))]; exact h

/-- no last part, or one that goes upward -/
theorem psplit_none (bs : List Addr) (a : Option Addr) (n cap : Nat) (xs : List ByteArray) (sl : Bool) (w : World) (h : Bp w bs) (hT : Texts w a n cap xs) (hx : xs = [] ∨ ∃ ys, xs = ys ++ [⟨#[46, 46]⟩]) :
    Calls Tryd.prog 29 #[Pt (.slice a n cap) sl] w fun e w' => e = .returned (.tuple #[Pt (.slice none 0 0) false, .string ⟨#[]⟩, errv bs 114]) ∧ Below w.heap.size w w' := by
  obtain ⟨aI, haI, hAI⟩ := errv_of h (i := 13) rfl
  rw [haI]
  obtain ⟨c1, c2⟩ := hT.bound
  have b1 := (Below.refl w.heap.size w).alloc (Nat.le_refl _) (.cells #[.slice a n cap, .bool sl] 57)
  have b2 := b1.alloc (by simp) RB
  have hA1 := (hAI.below b2).1
  rcases hx with rfl | ⟨ys, rfl⟩
  · have hl := hT.len
    have hn0 : n = 0 := by simpa using hl.symm
    subst hn0
    clear hT h haI
    go_enter Tryd.func29, Tryd.ntmps29
    go_wp2
    go_region
    all_goals go_wp2
    all_goals refine bodyPost_ret (v := .tuple #[Pt (.slice none 0 0) false, .string ⟨#[]⟩, ev aI]) (by simp [results, Tryd.results29, go_sem]) rfl ⟨rfl, b2.drew⟩
  · have hl := hT.len
    rw [List.length_append, List.length_singleton] at hl
    obtain ⟨b0, o0, rfl, hc0⟩ := (hT.below b2).at (j := n - 1) (by simp; omega)
    have hlast : (ys ++ [(⟨#[46, 46]⟩ : ByteArray)])[n - 1]'(by simp; omega) = ⟨#[46, 46]⟩ := by
      have : n - 1 = ys.length := by omega
      simp [this]
    rw [hlast] at hc0
    have t1 : (n == 0) = false := by rw [beq_eq_false_iff_ne]; omega
    have t2 : ((n : Int) == 0) = false := by rw [beq_eq_false_iff_ne]; omega
    have t3 : 1 ≤ n := by omega
    clear hT h haI
    go_enter Tryd.func29, Tryd.ntmps29
    go_wp2
    go_region
    all_goals go_wp2
    all_goals refine bodyPost_ret (v := .tuple #[Pt (.slice none 0 0) false, .string ⟨#[]⟩, ev aI]) (by simp [results, Tryd.results29, go_sem]) rfl ⟨rfl, b2.drew⟩

def SplitTo (w : World) (n : Nat) (ys : List ByteArray) (x : ByteArray) (e : Ending) (w' : World) : Prop :=
  ∃ v, e = .returned (.tuple #[Pt v false, .string x, .nilIface]) ∧ w'.ownsRow w.heap.size 9 1 v n (ys.map Value.string) ∧ Below w.heap.size w w'

theorem psplit_ok (a : Option Addr) (cap : Nat) (ys : List ByteArray) (x : ByteArray) (sl : Bool) (w : World) (hT : Texts w a (ys.length + 1) cap (ys ++ [x])) (hx : x ≠ ⟨#[46, 46]⟩) (hn : ys.length ≤ 100000) :
    Calls Tryd.prog 29 #[Pt (.slice a (ys.length + 1) cap) sl] w (SplitTo w ys.length ys x) := by
  obtain ⟨c1, c2⟩ := hT.bound
  have b1 := (Below.refl w.heap.size w).alloc (Nat.le_refl _) (.cells #[.slice a (ys.length + 1) cap, .bool sl] 57)
  have b2 := b1.alloc (by simp) RB
  obtain ⟨b0, o0, rfl, hc0⟩ := (hT.below b2).at (j := ys.length) (by simp)
  have hlast : (ys ++ [x])[ys.length]'(by simp) = x := by simp
  rw [hlast] at hc0
  have hk := (hT.below b2).take (m := ys.length) (by omega)
  rw [List.take_left] at hk
  have hne := ba_ne hx
  rw [show (⟨#[46, 46]⟩ : ByteArray).toList = [46, 46] from by rw [Lib.toList_data]] at hne
  have t2 : ((ys.length : Int) + 1 == 0) = false := by rw [beq_eq_false_iff_ne]; omega
  have e0 : Calls Tryd.prog 88 #[.slice (some ⟨b0, o0, none⟩) ys.length cap] _ _ := clone_w _ _ _ _ _ hk (by omega)
  have hb0 : b0 < w.heap.size := by
    obtain ⟨b', o', he, hc'⟩ := hT.at (j := ys.length) (by simp)
    cases he
    exact World.block_lt_of_cell? _ _ hc'
  clear hT hlast hx
  generalize hm : ys.length = m at *
  have f1 : IntKind.i64.wrap ((m : Int) + 1 - 1) = (m : Int) := by rw [IntKind.wrap_i64]; omega
  have f2 : (0 : Int) ≤ (m : Int) := by omega
  have f3 : (m : Int) ≤ (cap : Int) := by omega
  have f4 : (m : Int) < (m : Int) + 1 := by omega
  have f5 : (m : Int) + 1 - 1 = (m : Int) := by omega
  have f6 : ¬ cap = 0 := by omega
  have f9 : IntKind.i64.wrap (m : Int) = (m : Int) := by rw [IntKind.wrap_i64]; omega
  have f7 : m ≤ cap := by omega
  have f8 : ¬ 0 = cap := by omega
  go_enter Tryd.func29, Tryd.ntmps29
  go_wp2_with fail
  have s0 : ((w.alloc (.cells #[.slice (some ⟨b0, o0, none⟩) (m + 1) cap, .bool sl] 57)).alloc RB).cell? ⟨w.heap.size, 0, none⟩ = some (.slice (some ⟨b0, o0, none⟩) (m + 1) cap) := by simp
  have s2 : ((w.alloc (.cells #[.slice (some ⟨b0, o0, none⟩) (m + 1) cap, .bool sl] 57)).alloc RB).heap[w.heap.size + 1]? = some RB := alloc_at (by simp) _
  go_region_held3 (fun w' => w'.cell? ⟨w.heap.size, 0, none⟩ = some (.slice (some ⟨b0, o0, none⟩) (m + 1) cap) ∧ w'.cell? ⟨b0, o0 + m, none⟩ = some (.string x)) (first | exact ⟨s0, hc0⟩ | exact ⟨cell_set (cell_set s0 (by omega)) (by omega), cell_set (cell_set hc0 (by omega)) (by omega)⟩ | go_keep)
    ((go_at_call 88; refine (clone_w _ m cap ys _ (Texts.below hk (below_drewN (Below.refl _ _) _)) (by omega)).mono ?_; rintro e w3 ⟨v, rfl, own, hb3⟩; obtain ⟨va, vc, rfl, hT⟩ := texts_of own; replace s0 := Mem.kept hb3 s0; replace hc0 := Mem.kept hb3 hc0; replace s2 := (hb3.block (w.heap.size + 1) (by simp)).trans s2; obtain ⟨y1, y2, y3, y4⟩ := two s2))
  have hb4 : Below w.heap.size w w3 := (below_drewN b2 1).trans (hb3.mono (show w.heap.size ≤ _ by simp; omega))
  clear hb3 e0
  have HO : Hid (w3.ownsRow (w.heap.size + 2) 9 1 (.slice va m vc) m (ys.map Value.string)) := hid (ownsRow_base own (by simp))
  clear own
  go_wp2
  refine bodyPost_ret (v := .tuple #[Pt (.slice va m vc) false, .string x, .nilIface]) (by simp [results, Tryd.results29, go_sem, y1, y2]) rfl ⟨_, rfl, ?_, ?_⟩
  · exact ownsRow_base (kept_set (kept_set HO.out (by omega) _ _) (by omega) _ _) (by omega)
  · refine (hb4.setCell (p := ⟨w.heap.size + 1, 0, none⟩) (Nat.le_succ _) _).setCell (p := ⟨w.heap.size + 1, 1, none⟩) (Nat.le_succ _) _
end Go.Proofs.YtagbnacffiagcaaDoor.PathW
