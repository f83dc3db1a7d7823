/- The walks of package rec: numbers laid as three bytes, and read. -/
import Derived.Test.YtdgbgdkfoeoppaaDoorRefWalk
import Derived.Test.YtdgbgdkfoeoppaaDoorText
import Derived.Test.YtdgbgdkfoeoppaaDoorSeeWalk
namespace Go.Proofs.YtdgbgdkfoeoppaaDoor.RecW
open Go Go.RowKit Go.Proofs.YtdgbgdkfoeoppaaDoor.Mem Go.Proofs.YtdgbgdkfoeoppaaDoor.RefW Go.Proofs.YtdgbgdkfoeoppaaDoor.Text
set_option linter.unusedVariables false
set_option maxRecDepth 100000

/-- a place as a value -/
abbrev P (k n i : Int) (s : ByteArray) : Value := .agg #[.int .i64 k, .int .i64 n, .int .i64 i, .string s]
/-- three bytes of a number -/
def b3 (n : Nat) : List Nat := [n / 65536 % 256, n / 256 % 256, n % 256]
/-- the number of bytes -/
def num (l : List Nat) : Nat := l.foldl (fun n c => n * 256 + c) 0
theorem num_snoc (l : List Nat) (c : Nat) : num (l ++ [c]) = num l * 256 + c := by simp [num]
theorem num_lt : ∀ (l : List Nat), (∀ x ∈ l, x < 256) → num l.reverse < 256 ^ l.length := by
  intro l
  induction l with
  | nil => intro; decide
  | cons x l ih =>
    intro h
    rw [List.reverse_cons, num_snoc, List.length_cons, Nat.pow_succ]
    have h1 := ih fun y hy => h y (List.mem_cons_of_mem _ hy)
    have h2 := h x (by simp)
    omega
theorem num_lt' (l : List Nat) (h : ∀ x ∈ l, x < 256) : num l < 256 ^ l.length := by
  have := num_lt l.reverse (fun x hx => h x (by simpa using hx))
  simpa using this

theorem number_w (n : Int) (w : World) : Calls Tryd.prog 57 #[.int .i64 n] w fun e w' => e = .returned (.bool (decide (0 ≤ n) && decide (n ≤ 16777215))) ∧ w = w' := by
  go_enter Tryd.func57, Tryd.ntmps57
  go_wp2
  all_goals
    go_ret
    exact ⟨ret_bool (by simp; omega), rfl⟩

set_option maxHeartbeats 800000 in
theorem put_w (v : Value) (m : Nat) (xs : List Nat) (n : Nat) (base : Nat) (w : World) (hown : w.ownsRow base 5 1 v m (nums .u8 xs)) (hn : n < 16777216) (hm : m ≤ 1000) (hb : base ≤ w.heap.size) :
    Calls Tryd.prog 58 #[v, .int .i64 n] w fun e w' => ∃ v', e = .returned v' ∧ w'.ownsRow base 5 1 v' (m + 3) (nums .u8 (xs ++ b3 n)) ∧ Below base w w' := by
  go_enter Tryd.func58, Tryd.ntmps58
  go_wp2
  go_loopw [0, 5] (fun u i wr => ∃ k : Nat, k ≤ 3 ∧ i = .int .i64 (2 - (k : Int)) ∧ wr.ownsRow base 5 1 u (m + k) (nums .u8 (xs ++ (b3 n).take k)) ∧ Below base w wr) (fun _ i _ => (intOf i + 1).toNat)
  case atStart => exact ⟨0, by omega, rfl, by simpa using hown, Below.refl _ _⟩
  case round =>
    obtain ⟨k, hk, rfl, hown, hb1⟩ := hrel
    have hz := hb1.size
    match k, hk, hown with
    | 0, _, hown =>
      go_wp2_with (at_builtin; go_must (refine wpList_push elU8 rfl _ _ rfl base u0 _ _ rfl (hown.alloc _) wr.heap.size (.int .u8 ((n / 65536 % 256 : Nat) : Int)) rfl (by simp; omega) rfl (by unfold maxLen; omega) (by omega) (by simp; omega) ?_); intro v' w1 hown1 hb2 _)
      go_roundw
      case rel => exact ⟨1, by omega, rfl, by simpa [nums, b3] using hown1, (hb1.alloc (Nat.le_trans hb hz) _).trans hb2⟩
      case measure => simp [intOf]
    | 1, _, hown =>
      go_wp2_with (at_builtin; go_must (refine wpList_push elU8 rfl _ _ rfl base u0 _ _ rfl (hown.alloc _) wr.heap.size (.int .u8 ((n / 256 % 256 : Nat) : Int)) rfl (by simp) rfl (by unfold maxLen; omega) (by omega) (by simp; omega) ?_); intro v' w1 hown1 hb2 _)
      go_roundw
      case rel => exact ⟨2, by omega, rfl, by simpa [nums, b3] using hown1, (hb1.alloc (Nat.le_trans hb hz) _).trans hb2⟩
      case measure => simp [intOf]
    | 2, _, hown =>
      go_wp2_with (at_builtin; go_must (refine wpList_push elU8 rfl _ _ rfl base u0 _ _ rfl (hown.alloc _) wr.heap.size (.int .u8 ((n % 256 : Nat) : Int)) rfl (by simp) rfl (by unfold maxLen; omega) (by omega) (by simp; omega) ?_); intro v' w1 hown1 hb2 _)
      go_roundw
      case rel => exact ⟨3, by omega, rfl, by simpa [nums, b3] using hown1, (hb1.alloc (Nat.le_trans hb hz) _).trans hb2⟩
      case measure => simp [intOf]
    | 3, _, hown =>
      go_wp2
      go_ret
      exact ⟨_, rfl, by simpa [b3] using hown, hb1⟩
    | k + 4, hk, _ => exact absurd hk (by omega)

theorem or_i64 (v c : Nat) (hv : v < 65536) (hc : c < 256) : bits .or .i64 ((v : Int) * 256) (c : Int) = ((v * 256 + c : Nat) : Int) := by
  rw [bits_join .i64 62 (by decide) (fun n h0 h1 => IntWalk.i64_in _ (by omega)) 8 _ _ (by omega) (by omega) (by omega) (by omega) (by omega) (by omega)]
  omega

set_option maxHeartbeats 800000 in
theorem says_w (a : Option Addr) (n cap : Nat) (l : List Nat) (w : World) (h : Nums .u8 w a n cap l) (hl : ∀ x ∈ l, x < 256) (hn : n ≤ 3) :
    Calls Tryd.prog 59 #[.slice a n cap] w fun e w' => e = .returned (.int .i64 (num l)) ∧ w = w' := by
  have HL := hid h.len
  obtain ⟨c1, c2⟩ := h.bound
  go_enter Tryd.func59, Tryd.ntmps59
  go_wp2
  go_loop [3, 8] (fun v i => ∃ k : Nat, k ≤ n ∧ i = .int .i64 k ∧ v = .int .i64 (num (l.take k))) (fun _ i => n - (intOf i).toNat)
  case atStart => exact ⟨0, by omega, rfl, rfl⟩
  case round =>
    obtain ⟨k, hk, rfl, rfl⟩ := hrel
    by_cases hlt : k < n
    · have hkl : k < l.length := by rw [HL.out]; exact hlt
      obtain ⟨b, off, rfl, hc⟩ := h.at hkl
      have hv : num (l.take k) < 65536 := by
        have h1 := num_lt' (l.take k) (fun x hx => hl x (List.mem_of_mem_take hx))
        rw [List.length_take, Nat.min_eq_left (by omega)] at h1
        have h2 : 256 ^ k ≤ 256 ^ 2 := Nat.pow_le_pow_right (by decide) (by omega)
        omega
      have hx := hl _ (List.getElem_mem hkl)
      have HS := hid (show num (l.take (k + 1)) = num (l.take k) * 256 + l[k] by rw [List.take_succ_eq_append_getElem hkl, num_snoc])
      generalize l[k] = c at hc HS hx
      generalize num (l.take k) = v at hv HS
      clear h hl
      have ho := or_i64 v c hv hx
      go_wp2
      go_round
      case rel => exact ⟨k + 1, by omega, by go_num, by rw [HS.out]; simp⟩
      case measure => simp [intOf]; omega
    · obtain rfl : k = n := by omega
      have HE : Hid (l.take k = l) := List.take_of_length_le (by rw [HL.out]; exact Nat.le_refl _)
      rw [HE.out]
      go_wp2
      go_ret
      exact ⟨rfl, rfl⟩
end Go.Proofs.YtdgbgdkfoeoppaaDoor.RecW
