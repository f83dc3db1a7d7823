/- The walks of package breviaryref that many laws use: bytes copied, held against one another. -/
import Derived.Test.YtagbnacffiagcaaDoorProg
import Derived.Test.YtagbnacffiagcaaDoorMem
import Derived.Deep.DeepMust
import Derived.Deep.QuietTactic
import Derived.BigQuiet
import Derived.WalkSpells
namespace Go.Proofs.YtagbnacffiagcaaDoor.RefW
open Go Go.RowKit Go.Proofs.YtagbnacffiagcaaDoor.Mem
set_option linter.unusedVariables false
set_option maxRecDepth 100000

theorem elU8 : El Tryd.prog 28 5 (.int .u8 0) 1 1 := ⟨Tryd.underlying28, by kernel_rfl, rfl, by decide⟩

theorem take_snoc (l : List Nat) (k : Nat) (h : k < l.length) : l.take (k + 1) = l.take k ++ [l[k]] := by
  rw [List.take_succ_eq_append_getElem h]
set_option maxHeartbeats 800000 in
/-- a copy of bytes -/
theorem bytes_w (a : Option Addr) (n cap : Nat) (l : List Nat) (w : World) (hr : Nums .u8 w a n cap l) (hn : n ≤ 140737488355328) :
    Calls Tryd.prog 96 #[.slice a n cap] w fun e w' => ∃ v, e = .returned v ∧ w'.ownsRow w.heap.size 5 1 v n (nums .u8 l) ∧ Below w.heap.size w w' := by
  have hbd := hr.bound
  obtain ⟨hb1, hb2⟩ := hbd
  have HL : Hid (l.length = n) := hr.len
  have HR : Hid (Nums .u8 w a n cap l) := hr
  clear hr
  go_enter Tryd.func96, Tryd.ntmps96
  go_wp2_with (at_make; refine wpList_mk0 elU8 rfl _ _ rfl w.heap.size _ _ _ n rfl rfl rfl (by omega) (by unfold maxLen; omega) (Nat.le_refl _) ?_; intro w0 hown0 hgrow0)
  have hb0 := below_growns hgrow0 (Nat.le_refl w.heap.size)
  go_loopw [3, 4] (fun v i wr => ∃ k : Nat, k ≤ n ∧ i = .int .i64 k ∧ wr.ownsRow w.heap.size 5 1 v k (nums .u8 (l.take k)) ∧ Below w.heap.size w wr) (fun _ i _ => n - (intOf i).toNat)
  case atStart => exact ⟨0, by omega, rfl, hown0, hb0⟩
  case round =>
    obtain ⟨k, hk, rfl, hown, hb⟩ := hrel
    by_cases hlt : k < n
    · have hkl : k < l.length := by rw [HL.out]; exact hlt
      obtain ⟨b, off, rfl, hc⟩ := (HR.out.below hb).at hkl
      have HS : Hid (nums .u8 (l.take (k + 1)) = nums .u8 (l.take k) ++ [.int .u8 ((l[k] : Nat) : Int)]) := nums_take_succ .u8 l k hkl
      have hz := hb.size
      generalize l[k] = c at hc HS
      clear HR hown0 hgrow0 hb0
      go_wp2_with (at_builtin; go_must (refine wpList_push elU8 rfl _ _ rfl w.heap.size u3 k _ rfl (hown.alloc _) wr.heap.size (.int .u8 (c : Int)) rfl (by simp) rfl (by unfold maxLen; omega) (by omega) (by simp; omega) ?_); intro v' w1 hown1 hb1 _)
      go_roundw
      case rel => exact ⟨k + 1, by omega, by go_num, by rw [HS.out]; exact hown1, (hb.alloc hz _).trans hb1⟩
      case measure => simp [intOf]; omega
    · obtain rfl : k = n := by omega
      have HE : Hid (l.take k = l) := List.take_of_length_le (by rw [HL.out]; exact Nat.le_refl _)
      rw [HE.out] at hown
      go_wp2
      go_ret
      exact ⟨_, rfl, hown, hb⟩


theorem made_nums (k : IntKind) (n : Nat) : (madeCells (Value.int k 0).cells (n * 1)).toList = nums k (List.replicate n 0) := by
  rw [Nat.mul_one]
  show (madeCells #[Value.int k 0] n).toList = _
  rw [toList_madeCells_one]
  simp [nums]


theorem same_of_take {l m : List Nat} {k : Nat} (hl : k = l.length) (hm : k = m.length) (h : l.take k = m.take k) : l = m := by
  rwa [List.take_of_length_le (by omega), List.take_of_length_le (by omega)] at h

set_option maxHeartbeats 1600000 in
/-- two lists of bytes held against one another -/
theorem same_w (a : Option Addr) (n cap : Nat) (l : List Nat) (b : Option Addr) (m cap' : Nat) (l' : List Nat) (w : World) (h0 : Nums .u8 w a n cap l) (h1 : Nums .u8 w b m cap' l') :
    Calls Tryd.prog 20 #[.slice a n cap, .slice b m cap'] w fun e w' => e = .returned (.bool (decide (l = l'))) ∧ Below w.heap.size w w' := by
  have hbd0 := h0.bound
  have hbd1 := h1.bound
  have HL0 := hid h0.len
  have HL1 := hid h1.len
  obtain ⟨c1, c2⟩ := hbd0
  obtain ⟨c3, c4⟩ := hbd1
  by_cases hn : n = m
  · subst hn
    go_enter Tryd.func20, Tryd.ntmps20
    go_wp2
    go_loopw [5] (fun i wr => ∃ k : Nat, k ≤ n ∧ i = .int .i64 k ∧ l.take k = l'.take k ∧ Below w.heap.size w wr) (fun i _ => n - (intOf i).toNat)
    case atStart => exact ⟨0, by omega, rfl, by simp, Below.refl _ _⟩
    case round =>
      obtain ⟨k, hk, rfl, hT, hb⟩ := hrel
      have HT := hid hT
      clear hT
      by_cases hlt : k < n
      · have hkl : k < l.length := by rw [HL0.out]; exact hlt
        have hkl' : k < l'.length := by rw [HL1.out]; exact hlt
        obtain ⟨b0, o0, rfl, hc0⟩ := (h0.below hb).at hkl
        obtain ⟨b1, o1, rfl, hc1⟩ := (h1.below hb).at hkl'
        have HS0 := hid (List.take_succ_eq_append_getElem hkl)
        have HS1 := hid (List.take_succ_eq_append_getElem hkl')
        have HE0 := hid (List.getElem?_eq_getElem hkl)
        have HE1 := hid (List.getElem?_eq_getElem hkl')
        generalize l[k] = x at hc0 HS0 HE0
        generalize l'[k] = y at hc1 HS1 HE1
        clear h0 h1
        by_cases hxy : x = y
        · subst hxy
          go_wp2
          go_quiet (fail)
          go_wp2
          go_roundw
          case rel => exact ⟨k + 1, by omega, by go_num, by rw [HS0.out, HS1.out, HT.out], below_drewN hb _⟩
          case measure => simp [intOf]; omega
        · have hne : ((x : Int) == (y : Int)) = false := by simp; omega
          go_wp2
          go_quiet (fail)
          go_wp2
          go_ret
          refine ⟨ret_bool ?_, below_drewN hb _⟩
          simp only [decide_eq_false_iff_not, Bool.false_eq, decide_eq_false_iff_not]
          intro he
          have h2 := HE0.out
          rw [he, HE1.out] at h2
          exact hxy (Option.some.inj h2).symm
      · obtain rfl : k = n := by omega
        have he : l = l' := same_of_take HL0.out.symm HL1.out.symm HT.out
        go_wp2
        go_ret
        exact ⟨ret_bool (by simp [he]), hb⟩
  · have hne : ((n : Int) != (m : Int)) = true := by rw [bne_iff_ne]; omega
    go_enter Tryd.func20, Tryd.ntmps20
    go_wp2
    go_ret
    exact ⟨ret_bool (by simp; intro h; exact hn (by rw [← HL0.out, ← HL1.out, h])), Below.refl _ _⟩

set_option maxHeartbeats 800000 in
/-- a copy of bytes by the library's own Clone -/
theorem clone_w (a : Option Addr) (n cap : Nat) (l : List Nat) (w : World) (hr : Nums .u8 w a n cap l) (hn : n ≤ 140737488355328) :
    Calls Tryd.prog 93 #[.slice a n cap] w fun e w' => ∃ v, e = .returned v ∧ w'.ownsRow w.heap.size 5 1 v n (nums .u8 l) ∧ Below w.heap.size w w' := by
  have ke := fun (w : World) (a : Option Addr) (n c : Nat) => Lib.run_eql_slice_nil (P := Tryd.prog) w 28 5 a n c 0 0 Tryd.underlying28
  cases a with
  | none =>
    have hc := hr.2.2.2.1 rfl
    have hn0 : n = 0 := by have := hr.2.1; omega
    subst hc; subst hn0
    have hl : l = [] := List.eq_nil_of_length_eq_zero hr.len
    subst hl
    go_enter Tryd.func93, Tryd.ntmps93
    go_wp2
    go_ret
    exact ⟨_, rfl, World.ownsRow_nil _ _ _ _, Below.refl _ _⟩
  | some ad =>
    go_enter Tryd.func93, Tryd.ntmps93
    go_wp2_with (at_builtin; go_must (refine wpList_app elU8 rfl _ _ rfl w.heap.size (.slice (some ⟨w.heap.size, 0, none⟩) 0 0) 0 [] rfl (World.ownsRow_made w #[] 0 (Nat.le_refl _) (by decide) rfl) (some ad) n cap (nums .u8 l) rfl (Row.below hr ((Below.refl _ _).alloc (Nat.le_refl _) _)) (nums_oneCell _ _) (by unfold maxLen; omega) (by omega) (by simp) ?_); intro v1 w1 own1 hb1 _)
    go_ret
    rw [Nat.zero_add, List.nil_append] at own1
    exact ⟨_, rfl, own1, ((Below.refl _ _).alloc (Nat.le_refl _) _).trans hb1⟩
end Go.Proofs.YtagbnacffiagcaaDoor.RefW
