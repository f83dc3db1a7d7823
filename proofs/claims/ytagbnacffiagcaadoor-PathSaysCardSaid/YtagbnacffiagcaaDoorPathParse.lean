/- The walk of path.Parse. -/
import Derived.Test.YtagbnacffiagcaaDoorPathLib
import Derived.Test.YtagbnacffiagcaaDoorSeeWalk
import Derived.BigQuiet
namespace Go.Proofs.YtagbnacffiagcaaDoor.PathW
open Go Go.RowKit Go.Proofs.YtagbnacffiagcaaDoor.Mem Go.Proofs.YtagbnacffiagcaaDoor.SeeW
set_option linter.unusedVariables false
set_option maxRecDepth 100000

theorem elS : El Tryd.prog 55 9 (.string ByteArray.empty) 1 16 := ⟨Tryd.underlying55, by kernel_rfl, rfl, by decide⟩
/-- the three errors that a path may tell of -/
def Bp (w : World) (bs : List Addr) : Prop := ∀ i g, (i = 8 ∨ i = 13 ∨ i = 14) → gl[i]? = some g → ∃ a, bs[i]? = some a ∧ Err.At w g a
theorem Bp.below {w w' : World} {bs : List Addr} (h : Bp w bs) (hb : Below w.heap.size w w') : Bp w' bs := fun i g hi hg =>
  let ⟨a, h1, h2⟩ := h i g hi hg; ⟨a, h1, h2.below hb⟩
theorem Bs.path {w : World} {bs : List Addr} (h : Bs w bs) : Bp w bs := fun i g _ hg => h.2.2 i g hg
/-- where these three alone are listed -/
theorem bp_of {w : World} (h : Err.All w [3, 4, 5]) : ∃ bs, Bp w bs := by
  obtain ⟨cs, _, _, h3⟩ := h
  obtain ⟨a0, _, h0⟩ := h3 0 _ rfl
  obtain ⟨a1, _, h1⟩ := h3 1 _ rfl
  obtain ⟨a2, _, h2⟩ := h3 2 _ rfl
  refine ⟨[a0, a0, a0, a0, a0, a0, a0, a0, a0, a0, a0, a0, a0, a2, a1], fun i g hi hg => ?_⟩
  rcases hi with rfl | rfl | rfl
  · cases hg; exact ⟨a0, rfl, h0⟩
  · cases hg; exact ⟨a2, rfl, h2⟩
  · cases hg; exact ⟨a1, rfl, h1⟩
/-- an error as a value, by its number -/
def errv (bs : List Addr) (c : Nat) : Value := if c = 0 then .nilIface else ev (bs.getD (c - 101) ⟨0, 0, none⟩)
abbrev Pt (v : Value) (sl : Bool) : Value := .agg #[v, .bool sl]
abbrev bad (s : ByteArray) : Nat := Path.bad s.data.toList
def kept (x : ByteArray) : Bool := Path.keep x.data.toList
def good (s : ByteArray) : List ByteArray := (pieces s).filter kept
/-- what is handed back -/
def out (s : ByteArray) : List ByteArray := if bad s = 0 then good s else []
def slash (s : ByteArray) : Bool := if bad s = 0 then Path.slash s.data.toList else false

def Parsed (bs : List Addr) (s : ByteArray) (w : World) (e : Ending) (w' : World) : Prop :=
  ∃ v, e = .returned (.tuple #[Pt v (slash s), errv bs (bad s)]) ∧ w'.ownsRow w.heap.size 9 1 v (out s).length ((out s).map Value.string) ∧ Below w.heap.size w w'

theorem errv_of {bs : List Addr} {w : World} (h : Bp w bs) {i g : Nat} (hg : gl[i]? = some g) (hi : i = 8 ∨ i = 13 ∨ i = 14 := by decide) : ∃ a, errv bs (101 + i) = ev a ∧ Err.At w g a := by
  obtain ⟨a, ha, hA⟩ := h i g hi hg
  refine ⟨a, ?_, hA⟩
  unfold errv
  rw [if_neg (by omega), show 101 + i - 101 = i by omega, List.getD_eq_getElem?_getD, ha]
  rfl
theorem out_bad {s : ByteArray} (h : bad s ≠ 0) : out s = [] ∧ slash s = false := by
  unfold out slash
  rw [if_neg h, if_neg h]
  exact ⟨rfl, rfl⟩

/-- the result's own block -/
abbrev RB : Obj := .cells #[.slice none 0 0, .bool false] 57

theorem parse_empty (bs : List Addr) (s : ByteArray) (w : World) (h : Bp w bs) (hs : s = ⟨#[]⟩) : Calls Tryd.prog 24 #[.string s] w (Parsed bs s w) := by
  have hb : bad s = 109 := by subst hs; rfl
  obtain ⟨o1, o2⟩ := out_bad (s := s) (by omega)
  obtain ⟨a, ha, hA⟩ := errv_of h (i := 8) rfl
  have hA1 := (hA.below ((Below.refl _ w).alloc (Nat.le_refl _) RB)).1
  unfold Parsed
  rw [o1, o2, hb, ha]
  subst hs
  clear o1 o2 ha hb hA h
  go_enter Tryd.func24, Tryd.ntmps24
  go_wp2
  go_region
  all_goals go_wp2
  all_goals refine bodyPost_ret (v := .tuple #[Pt (.slice none 0 0) false, ev a]) (by simp [results, Tryd.results24, go_sem]) rfl ⟨_, rfl, World.ownsRow_nil _ _ _ _, ((Below.refl _ _).alloc (Nat.le_refl _) _).drew⟩

theorem parse_long (bs : List Addr) (s : ByteArray) (w : World) (h : Bp w bs) (hs : 256 < s.size) (h63 : s.size ≤ 9223372036854775807) : Calls Tryd.prog 24 #[.string s] w (Parsed bs s w) := by
  have hl : s.data.toList.length = s.size := by rw [Array.length_toList]; rfl
  have hb : bad s = 115 := by
    unfold bad Path.bad
    rw [if_neg (by intro e; rw [e] at hl; simp at hl; omega), if_pos (by omega)]
  obtain ⟨o1, o2⟩ := out_bad (s := s) (by omega)
  obtain ⟨a, ha, hA⟩ := errv_of h (i := 14) rfl
  have hA1 := (hA.below ((Below.refl _ w).alloc (Nat.le_refl _) RB)).1
  have hne : s.toList.isEmpty = false := by
    rw [Lib.toList_data]
    cases h : s.data.toList with
    | nil => rw [h] at hl; simp at hl; omega
    | cons _ _ => rfl
  unfold Parsed
  rw [o1, o2, hb, ha]
  clear o1 o2 ha hb hA h hl
  go_enter Tryd.func24, Tryd.ntmps24
  go_wp2
  go_region
  all_goals go_wp2
  all_goals refine bodyPost_ret (v := .tuple #[Pt (.slice none 0 0) false, ev a]) (by simp [results, Tryd.results24, go_sem]) rfl ⟨_, rfl, World.ownsRow_nil _ _ _ _, ((Below.refl _ _).alloc (Nat.le_refl _) _).drew⟩

theorem at_zero {s : ByteArray} {c : UInt8} {l : List UInt8} (h : s.data.toList = c :: l) (h1 : 0 < s.size) : s[0] = c := by
  have e : s.data.toList[0]? = some c := by rw [h]; rfl
  rw [Array.getElem?_toList] at e
  have h2 : 0 < s.data.size := h1
  rw [Array.getElem?_eq_getElem h2] at e
  exact Option.some.inj e

/-- it begins with no slash, or holds a nothing -/
theorem parse_inval (bs : List Addr) (s : ByteArray) (w : World) (h : Bp w bs) (h0 : 0 < s.size) (hs : s.size ≤ 256) (hw : s.data.toList.head? ≠ some 47 ∨ (0 : UInt8) ∈ s.data.toList) : Calls Tryd.prog 24 #[.string s] w (Parsed bs s w) := by
  have hl : s.data.toList.length = s.size := by rw [Array.length_toList]; rfl
  have hb : bad s = 114 := by
    unfold bad Path.bad
    rw [if_neg (by intro e; rw [e] at hl; simp at hl; omega), if_neg (by omega), if_pos hw]
  obtain ⟨o1, o2⟩ := out_bad (s := s) (by omega)
  obtain ⟨a, ha, hA⟩ := errv_of h (i := 13) rfl
  have hA1 := (hA.below ((Below.refl _ w).alloc (Nat.le_refl _) RB)).1
  obtain ⟨c, l, hcl⟩ : ∃ c l, s.data.toList = c :: l := by
    cases h : s.data.toList with
    | nil => rw [h] at hl; simp at hl; omega
    | cons c l => exact ⟨c, l, rfl⟩
  have hne : s.toList.isEmpty = false := by rw [Lib.toList_data, hcl]; rfl
  have hx := at_zero hcl h0
  unfold Parsed
  rw [o1, o2, hb, ha]
  clear o1 o2 ha hb hA h hl
  by_cases hc : c = 47
  · subst hc
    rw [hcl] at hw
    have hz : decide ((0 : UInt8) ∈ s.data.toList) = true := by
      rw [decide_eq_true_eq, hcl]
      rcases hw with hw | hw
      · exact absurd rfl hw
      · exact hw
    have hq : (((s[0]'h0).toNat : Int) != 47) = false := by rw [hx]; decide
    clear hx hw hcl
    go_enter Tryd.func24, Tryd.ntmps24
    go_wp2_with fail
    refine (contains_w s _).mono ?_
    rintro e w' ⟨rfl, rfl⟩
    rw [hz]
    go_wp2
    go_region
    all_goals go_wp2
    all_goals refine bodyPost_ret (v := .tuple #[Pt (.slice none 0 0) false, ev a]) (by simp [results, Tryd.results24, go_sem]) rfl ⟨_, rfl, World.ownsRow_nil _ _ _ _, ((Below.refl _ _).alloc (Nat.le_refl _) _).drew⟩
  · have hq : (((s[0]'h0).toNat : Int) != 47) = true := by
      rw [hx, bne_iff_ne]
      intro e
      have e2 : c.toNat = (47 : UInt8).toNat := by show c.toNat = 47; omega
      exact hc (UInt8.toNat_inj.1 e2)
    clear hx hw hcl
    go_enter Tryd.func24, Tryd.ntmps24
    go_wp2
    go_region
    all_goals go_wp2
    all_goals refine bodyPost_ret (v := .tuple #[Pt (.slice none 0 0) false, ev a]) (by simp [results, Tryd.results24, go_sem]) rfl ⟨_, rfl, World.ownsRow_nil _ _ _ _, ((Below.refl _ _).alloc (Nat.le_refl _) _).drew⟩
end Go.Proofs.YtagbnacffiagcaaDoor.PathW
