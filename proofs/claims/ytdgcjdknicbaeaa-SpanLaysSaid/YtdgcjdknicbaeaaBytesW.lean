/- breviaryref.Bytes: bytes copied. -/
import Derived.Test.YtdgcjdknicbaeaaProg
import Derived.Test.YtdgcjdknicbaeaaMem
import Derived.Deep.DeepMust
import Derived.Deep.QuietTactic
import Derived.BigQuiet
import Derived.WalkSpells
namespace Go.Proofs.Ytdgcjdknicbaeaa.RefW
open Go Go.RowKit Go.Proofs.Ytdgcjdknicbaeaa.Mem
set_option linter.unusedVariables false
set_option maxRecDepth 100000

theorem elU8 : El Try.prog 22 5 (.int .u8 0) 1 1 := ⟨Try.underlying22, by kernel_rfl, rfl, by decide⟩

theorem take_snoc (l : List Nat) (k : Nat) (h : k < l.length) : l.take (k + 1) = l.take k ++ [l[k]] := by
  rw [List.take_succ_eq_append_getElem h]
set_option maxHeartbeats 800000 in
/-- a copy of bytes -/
theorem bytes_w (a : Option Addr) (n cap : Nat) (l : List Nat) (w : World) (hr : Nums .u8 w a n cap l) (hn : n ≤ 140737488355328) :
    Calls Try.prog 7 #[.slice a n cap] w fun e w' => ∃ v, e = .returned v ∧ w'.ownsRow w.heap.size 5 1 v n (nums .u8 l) ∧ Below w.heap.size w w' := by
  have hbd := hr.bound
  obtain ⟨hb1, hb2⟩ := hbd
  have HL : Hid (l.length = n) := hr.len
  have HR : Hid (Nums .u8 w a n cap l) := hr
  clear hr
  go_enter Try.func7, Try.ntmps7
  go_wp2_with (at_make; refine wpList_mk0 elU8 rfl _ _ rfl w.heap.size _ _ _ n rfl rfl rfl (by omega) (by unfold maxLen; omega) (Nat.le_refl _) ?_; intro w0 hown0 hgrow0)
  have hb0 := below_growns hgrow0 (Nat.le_refl w.heap.size)
  go_loopw [3, 4] (fun v i wr => ∃ k : Nat, k ≤ n ∧ i = .int .i64 k ∧ wr.ownsRow w.heap.size 5 1 v k (nums .u8 (l.take k)) ∧ Below w.heap.size w wr) (fun _ i _ => n - (intOf i).toNat)
  case atStart => exact ⟨0, by omega, rfl, hown0, hb0⟩
  case round =>
    obtain ⟨k, hk, rfl, hown, hb⟩ := hrel
    by_cases hlt : k < n
    · have hkl : k < l.length := by rw [HL.out]; exact hlt
      obtain ⟨b, off, rfl, hc⟩ := (HR.out.below hb).at hkl
      have HS : Hid (nums .u8 (l.take (k + 1)) = nums .u8 (l.take k) ++ [.int .u8 ((l[k] : Nat) : Int)]) := nums_take_succ .u8 l k hkl
      have hz := hb.size
      generalize l[k] = c at hc HS
      clear HR hown0 hgrow0 hb0
      go_wp2_with (at_builtin; go_must (refine wpList_push elU8 rfl _ _ rfl w.heap.size u3 k _ rfl (hown.alloc _) wr.heap.size (.int .u8 (c : Int)) rfl (by simp) rfl (by unfold maxLen; omega) (by omega) (by simp; omega) ?_); intro v' w1 hown1 hb1 _)
      go_roundw
      case rel => exact ⟨k + 1, by omega, by go_num, by rw [HS.out]; exact hown1, (hb.alloc hz _).trans hb1⟩
      case measure => simp [intOf]; omega
    · obtain rfl : k = n := by omega
      have HE : Hid (l.take k = l) := List.take_of_length_le (by rw [HL.out]; exact Nat.le_refl _)
      rw [HE.out] at hown
      go_wp2
      go_ret
      exact ⟨_, rfl, hown, hb⟩


theorem made_nums (k : IntKind) (n : Nat) : (madeCells (Value.int k 0).cells (n * 1)).toList = nums k (List.replicate n 0) := by
  rw [Nat.mul_one]
  show (madeCells #[Value.int k 0] n).toList = _
  rw [toList_madeCells_one]
  simp [nums]
end Go.Proofs.Ytdgcjdknicbaeaa.RefW
