/- Places and bytes in order: the program's and the library's comparisons. -/
import Derived.Test.YtdgbgdkfoeoppaaDoorRecWalk
import Derived.Test.YtdgbgdkfoeoppaaDoorTextApp
import Derived.Test.YtdgbgdkfoeoppaaDoorInts
import Derived.BigQuiet
import Derived.Lib.Bytealg
namespace Go.Proofs.YtdgbgdkfoeoppaaDoor.RecW
open Go Go.RowKit Go.Proofs.YtdgbgdkfoeoppaaDoor.Mem Go.Proofs.YtdgbgdkfoeoppaaDoor.RefW Go.Proofs.YtdgbgdkfoeoppaaDoor.Text
set_option linter.unusedVariables false
set_option maxRecDepth 100000

/-- two numbers held against one another -/
def sgn (x y : Int) : Int := if x < y then -1 else if y < x then 1 else 0
/-- the first that is not nothing -/
def orL : List Int → Int
  | [] => 0
  | x :: l => if x ≠ 0 then x else orL l
theorem orL_drop {zs : List Int} {k : Nat} (hk : k < zs.length) (h : zs[k] = 0) : orL (zs.drop k) = orL (zs.drop (k + 1)) := by
  rw [List.drop_eq_getElem_cons hk, orL, if_neg (by simpa using h)]
theorem orL_hit {zs : List Int} {k : Nat} (hk : k < zs.length) (h : zs[k] ≠ 0) : orL (zs.drop k) = zs[k] := by
  rw [List.drop_eq_getElem_cons hk, orL, if_pos h]

theorem nan_w (x : Int) (w : World) : Calls Tryd.prog 73 #[.int .i64 x] w fun e w' => e = .returned (.bool false) ∧ w = w' := by
  go_enter Tryd.func73, Tryd.ntmps73
  go_wp2
  go_ret
  exact ⟨ret_bool (by simp), rfl⟩
theorem cmp_w (x y : Int) (w : World) : Calls Tryd.prog 68 #[.int .i64 x, .int .i64 y] w fun e w' => e = .returned (.int .i64 (sgn x y)) ∧ w = w' := by
  go_enter Tryd.func68, Tryd.ntmps68
  go_wp2_with (first | (go_at_call 73; refine (nan_w _ _).mono ?_; rintro e w' ⟨rfl, rfl⟩))
  all_goals
    go_ret
    refine ⟨ret_int ?_, rfl⟩
    unfold sgn
    repeat' split
    all_goals omega
theorem str_w (a b : ByteArray) (w : World) : Calls Tryd.prog 74 #[.string a, .string b] w fun e w' => e = .returned (.int .i64 (Lib.compareBytes a.data.toList b.data.toList)) ∧ w = w' := by
  go_enter Tryd.func74, Tryd.ntmps74
  go_wp2
  rw [run_callFunc_extern Tryd.func77 (by kernel_rfl) (by kernel_rfl) (by kernel_rfl) (e := Extern.BytealgCompare.compare) (by kernel_rfl), Lib.run_compareString]
  simp only [Result.andThen]
  rw [Oper.upon_value]
  go_wp2
  go_ret
  exact ⟨rfl, rfl⟩
theorem strs_w (a b : ByteArray) (w : World) : Calls Tryd.prog 69 #[.string a, .string b] w fun e w' => e = .returned (.int .i64 (Lib.compareBytes a.data.toList b.data.toList)) ∧ w = w' := by
  go_enter Tryd.func69, Tryd.ntmps69
  go_wp2_with (first | (go_at_call 74; refine (str_w _ _ _).mono ?_; rintro e w' ⟨rfl, rfl⟩))
  go_ret
  exact ⟨rfl, rfl⟩

theorem or_w (a : Option Addr) (n cap : Nat) (zs : List Int) (w : World) (h : Ints.Is w a n cap zs) :
    Calls Tryd.prog 67 #[.slice a n cap] w fun e w' => e = .returned (.int .i64 (orL zs)) ∧ w = w' := by
  have HL := hid h.len
  obtain ⟨c1, c2⟩ := h.bound
  go_enter Tryd.func67, Tryd.ntmps67
  go_wp2
  go_loop [8] (fun i => ∃ k : Nat, k ≤ n ∧ i = .int .i64 k ∧ orL zs = orL (zs.drop k)) (fun i => n - (intOf i).toNat)
  case atStart => exact ⟨0, by omega, rfl, by simp⟩
  case round =>
    obtain ⟨k, hk, rfl, hT⟩ := hrel
    have HT := hid hT
    clear hT
    by_cases hlt : k < n
    · have hkl : k < zs.length := by rw [HL.out]; exact hlt
      obtain ⟨b0, o0, rfl, hc0⟩ := h.at hkl
      have H0 := hid (fun e => orL_drop hkl e)
      have H1 := hid (fun e => orL_hit hkl e)
      generalize zs[k] = y at hc0 H0 H1
      clear h
      by_cases hy : y = 0
      · have hne : (y != 0) = false := by simpa using hy
        go_wp2
        go_round
        case rel => exact ⟨k + 1, by omega, by go_num, HT.out.trans (H0.out hy)⟩
        case measure => simp [intOf]; omega
      · have hne : (y != 0) = true := by simpa using hy
        go_wp2
        go_ret
        exact ⟨ret_int (HT.out.trans (H1.out hy)).symm, rfl⟩
    · obtain rfl : k = n := by omega
      go_wp2
      go_ret
      refine ⟨ret_int ?_, rfl⟩
      rw [HT.out, List.drop_eq_nil_of_le (by rw [HL.out]; omega)]
      rfl
end Go.Proofs.YtdgbgdkfoeoppaaDoor.RecW
