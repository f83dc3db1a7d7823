/- The walks of the reference's numbers as bytes. -/
import Derived.Test.YtdgbgdkfoeoppaaDoorWirePut
namespace Go.Proofs.YtdgbgdkfoeoppaaDoor.Wire
open Go Go.RowKit Go.Proofs.YtdgbgdkfoeoppaaDoor.Mem Go.Proofs.YtdgbgdkfoeoppaaDoor.RefW Go.Proofs.YtdgbgdkfoeoppaaDoor.Text
set_option linter.unusedVariables false
set_option maxRecDepth 100000

theorem or_u64 (q : Nat) (hq : q < 18446744073709551616) : bits .or .u64 (bits .and .u64 (q : Int) 127) 128 = ((q % 128 + 128 : Nat) : Int) := by
  have e1 : bits .and .u64 (q : Int) 127 = ((q % 128 : Nat) : Int) := by
    rw [show (127 : Int) = ((127 : Nat) : Int) from rfl, bits_and_u64_nat _ _ hq (by decide)]
    congr 1
    exact Nat.and_two_pow_sub_one_eq_mod q 7
  rw [e1, show (128 : Int) = ((128 : Nat) : Int) from rfl, bits_or_u64_nat _ _ (by omega) (by decide), or128 _ (by omega)]
  omega

theorem rneg (n : Int) (h : n < 0) (h' : -9223372036854775808 ≤ n) :
    bits .xor .u64 IntKind.u64.max (IntKind.u64.wrap (IntKind.u64.wrap n * 2)) = ((zig n : Nat) : Int) := by
  have e1 : IntKind.u64.max = ((18446744073709551615 : Nat) : Int) := by decide
  have e2 : IntKind.u64.wrap (IntKind.u64.wrap n * 2) = (((2 * n + 18446744073709551616).toNat : Nat) : Int) := by rw [IntKind.wrap_u64, IntKind.wrap_u64]; omega
  rw [e1, e2, bits_xor_u64_nat _ _ (by omega) (by omega), Nat.xor_comm, xor_ones _ (by omega)]
  unfold zig
  rw [if_neg (by omega)]
  omega
theorem rpos (n : Int) (h : 0 ≤ n) : n * 2 = ((zig n : Nat) : Int) := by
  unfold zig
  rw [if_pos h]
  omega

set_option maxHeartbeats 1600000 in
theorem rputs_w (a : Option Addr) (m cap : Nat) (l : List Nat) (n : Int) (w : World) (hr : Nums .u8 w a m cap l) (hn : -9223372036854775808 ≤ n ∧ n ≤ 9223372036854775807) (hm : m ≤ 100000) :
    Calls Tryd.prog 47 #[.slice a m cap, .int .i64 n] w fun e w' => ∃ v', e = .returned v' ∧ w'.ownsRow w.heap.size 5 1 v' (m + (enc (zig n)).length) (nums .u8 (l ++ enc (zig n))) ∧ Below w.heap.size w w' := by
  have hz := zig_lt hn
  have ht := enc_ten hz
  rcases Int.lt_or_le n 0 with h | h
  case' inl =>
    have d1 : decide (n < 0) = true := by rw [decide_eq_true_eq]; omega
    have hx := rneg n h hn.1
  case' inr =>
    have d1 : decide (n < 0) = false := by rw [decide_eq_false_iff_not]; omega
    have hx := rpos n h
  all_goals
    generalize zig n = z at *
    go_enter Tryd.func47, Tryd.ntmps47
    go_wp2_with fail
    refine (bytes_w a m cap l _ hr (by omega)).mono ?_
    rintro e w1 ⟨v, rfl, hown, hb0⟩
    have hb := hb0.size
    go_wp2_with fail
    clear hx d1
    go_loopw [5, 6] (fun u i wr => ∃ (p : List Nat) (q : Nat), i = .int .u64 q ∧ q < 18446744073709551616 ∧ enc z = p ++ enc q ∧ wr.ownsRow w.heap.size 5 1 u (m + p.length) (nums .u8 (l ++ p)) ∧ Below w.heap.size w wr) (fun _ i _ => (intOf i).toNat)
    case atStart => exact ⟨[], z, rfl, hz, rfl, by simpa using hown, hb0⟩
    case round =>
      obtain ⟨p, q, rfl, hq, he, hown, hb1⟩ := hrel
      have hzz := hb1.size
      have HE := hid he
      have hp : p.length ≤ 10 := by rw [he] at ht; simp at ht; omega
      have ho := or_u64 q hq
      clear he ht hz
      by_cases h7 : q < 128
      · have E1 := hid (enc_lt h7)
        have hq8 : (q : Int) < 128 := by omega
        have hw8 : IntKind.u8.wrap (q : Int) = (q : Int) := wraps_u8 _ (by omega) (by omega)
        go_wp2_with (at_builtin; go_must (refine wpList_push elU8 rfl _ _ rfl w.heap.size u5 _ _ rfl (hown.alloc _) wr.heap.size (.int .u8 (q : Int)) rfl (by simp) rfl (by unfold maxLen; omega) (by omega) (by simp; omega) ?_); intro v' w1 hown1 hb2 _)
        go_ret
        refine ⟨_, rfl, ?_, (hb1.alloc hzz _).trans hb2⟩
        have HL : (enc z).length = p.length + 1 := by rw [HE.out, E1.out]; simp
        rw [HL, HE.out, E1.out]
        simpa [nums, Nat.add_assoc] using hown1
      · have E1 := hid (enc_ge h7)
        have hq8 : (128 : Int) ≤ (q : Int) := by omega
        go_wp2_with (at_builtin; go_must (refine wpList_push elU8 rfl _ _ rfl w.heap.size u5 _ _ rfl (hown.alloc _) wr.heap.size (.int .u8 ((q % 128 + 128 : Nat) : Int)) rfl (by first | (simp; done) | (simp; omega)) rfl (by unfold maxLen; omega) (by omega) (by simp; omega) ?_); intro v' w1 hown1 hb2 _)
        go_roundw
        case rel => exact ⟨p ++ [q % 128 + 128], q / 128, by simp, by omega, by rw [HE.out, E1.out]; simp, by simpa [nums, Nat.add_assoc] using hown1, (hb1.alloc hzz _).trans hb2⟩
        case measure => simp [intOf]; omega
set_option maxHeartbeats 800000 in
theorem rputt_w (a : Option Addr) (m cap : Nat) (l : List Nat) (s : ByteArray) (w : World) (hr : Nums .u8 w a m cap l) (hs : s.size ≤ 1000) (hm : m ≤ 100000) :
    Calls Tryd.prog 48 #[.slice a m cap, .string s] w fun e w' => ∃ v', e = .returned v' ∧ w'.ownsRow w.heap.size 5 1 v' (m + (enc (zig s.size)).length + s.size) (nums .u8 (l ++ enc (zig s.size) ++ txt s)) ∧ Below w.heap.size w w' := by
  have hn : -9223372036854775808 ≤ (s.size : Int) ∧ (s.size : Int) ≤ 9223372036854775807 := by omega
  have ht := enc_ten (zig_lt hn)
  go_enter Tryd.func48, Tryd.ntmps48
  go_wp2_with fail
  refine (rputs_w a m cap l s.size _ hr hn hm).mono ?_
  rintro e w2 ⟨v', rfl, hv', hb2⟩
  have hz := hb2.size
  go_wp2_with (at_builtin; go_must (refine wpList_text rfl _ _ rfl w.heap.size v' _ _ rfl hv' s rfl (by omega) (by omega) ?_); intro v3 w3 o3 hb3)
  go_ret
  exact ⟨v3, rfl, o3, hb2.trans hb3⟩
end Go.Proofs.YtdgbgdkfoeoppaaDoor.Wire
