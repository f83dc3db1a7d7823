/- The walks of package wire that lay numbers. -/
import Derived.Test.YtdgbgdkfoeoppaaDoorWirePlain
import Derived.Test.YtdgbgdkfoeoppaaDoorTextApp
namespace Go.Proofs.YtdgbgdkfoeoppaaDoor.Wire
open Go Go.RowKit Go.Proofs.YtdgbgdkfoeoppaaDoor.Mem Go.Proofs.YtdgbgdkfoeoppaaDoor.RefW Go.Proofs.YtdgbgdkfoeoppaaDoor.Text
set_option linter.unusedVariables false
set_option maxRecDepth 100000

theorem xor_ones (a : Nat) (h : a < 18446744073709551616) : a ^^^ 18446744073709551615 = 18446744073709551615 - a := by
  have e := congrArg BitVec.toNat (BitVec.xor_allOnes (x := BitVec.ofNat 64 a))
  rw [BitVec.toNat_xor, BitVec.toNat_not, BitVec.toNat_ofNat, Nat.mod_eq_of_lt (by omega)] at e
  simpa using e
theorem xneg (n : Int) (h : n < 0) (h' : -9223372036854775808 ≤ n) :
    bits .xor .u64 (IntKind.u64.wrap (IntKind.u64.wrap n * 2)) (IntKind.u64.wrap (n / 9223372036854775808)) = ((zig n : Nat) : Int) := by
  have e1 : IntKind.u64.wrap (n / 9223372036854775808) = ((18446744073709551615 : Nat) : Int) := by rw [IntKind.wrap_u64]; omega
  have e2 : IntKind.u64.wrap (IntKind.u64.wrap n * 2) = (((2 * n + 18446744073709551616).toNat : Nat) : Int) := by rw [IntKind.wrap_u64, IntKind.wrap_u64]; omega
  rw [e1, e2, bits_xor_u64_nat _ _ (by omega) (by omega), xor_ones _ (by omega)]
  unfold zig
  rw [if_neg (by omega)]
  omega
theorem xpos (n : Int) (h : 0 ≤ n) (h' : n ≤ 9223372036854775807) : bits .xor .u64 (n * 2) (n / 9223372036854775808) = ((zig n : Nat) : Int) := by
  have e1 : n / 9223372036854775808 = ((0 : Nat) : Int) := by omega
  have e2 : n * 2 = (((2 * n).toNat : Nat) : Int) := by omega
  rw [e1, e2, bits_xor_u64_nat _ _ (by omega) (by omega), Nat.xor_zero]
  unfold zig
  rw [if_pos h]
theorem or_u8 (q : Nat) : bits .or .u8 ((q : Int) % 256) 128 = ((q % 128 + 128 : Nat) : Int) := by
  have e : ((q : Int) % 256) = ((q % 256 : Nat) : Int) := by omega
  rw [e, show (128 : Int) = ((128 : Nat) : Int) from rfl, (bits_nat .u8 8 (by decide) wraps_u8 (q % 256) 128 (by omega) (by decide)).2, or128 _ (by omega)]
  omega

set_option maxHeartbeats 1600000 in
theorem put_w (v : Value) (m : Nat) (xs : List Nat) (n : Int) (base : Nat) (w : World) (hown : w.ownsRow base 5 1 v m (nums .u8 xs)) (hn : -9223372036854775808 ≤ n ∧ n ≤ 9223372036854775807) (hm : m ≤ 100000) (hb : base ≤ w.heap.size) :
    Calls Tryd.prog 60 #[v, .int .i64 n] w fun e w' => ∃ v', e = .returned v' ∧ w'.ownsRow base 5 1 v' (m + (enc (zig n)).length) (nums .u8 (xs ++ enc (zig n))) ∧ Below base w w' := by
  have hz := zig_lt hn
  have ht := enc_ten hz
  rcases Int.lt_or_le n 0 with h | h
  case' inl => have hx := xneg n h hn.1
  case' inr => have hx := xpos n h hn.2
  all_goals
    generalize zig n = z at *
    go_enter Tryd.func60, Tryd.ntmps60
    go_wp2
    clear hx
    go_loopw [0, 5] (fun u i wr => ∃ (p : List Nat) (q : Nat), i = .int .u64 q ∧ q < 18446744073709551616 ∧ enc z = p ++ enc q ∧ wr.ownsRow base 5 1 u (m + p.length) (nums .u8 (xs ++ p)) ∧ Below base w wr) (fun _ i _ => (intOf i).toNat)
    case atStart => exact ⟨[], z, rfl, hz, rfl, by simpa using hown, Below.refl _ _⟩
    case round =>
      obtain ⟨p, q, rfl, hq, he, hown, hb1⟩ := hrel
      have hzz := hb1.size
      have HE := hid he
      have hp : p.length ≤ 10 := by rw [he] at ht; simp at ht; omega
      have ho := or_u8 q
      clear he ht hz
      by_cases h7 : q < 128
      · have E1 := hid (enc_lt h7)
        have hq8 : (q : Int) < 128 := by omega
        have hw8 : IntKind.u8.wrap (q : Int) = (q : Int) := wraps_u8 _ (by omega) (by omega)
        go_wp2_with (at_builtin; go_must (refine wpList_push elU8 rfl _ _ rfl base u0 _ _ rfl (hown.alloc _) wr.heap.size (.int .u8 (q : Int)) rfl (by simp) rfl (by unfold maxLen; omega) (by omega) (by simp; omega) ?_); intro v' w1 hown1 hb2 _)
        go_ret
        refine ⟨_, rfl, ?_, (hb1.alloc (Nat.le_trans hb hzz) _).trans hb2⟩
        have HL : (enc z).length = p.length + 1 := by rw [HE.out, E1.out]; simp
        rw [HL, HE.out, E1.out]
        simpa [nums, Nat.add_assoc] using hown1
      · have E1 := hid (enc_ge h7)
        have hq8 : (128 : Int) ≤ (q : Int) := by omega
        go_wp2_with (at_builtin; go_must (refine wpList_push elU8 rfl _ _ rfl base u0 _ _ rfl (hown.alloc _) wr.heap.size (.int .u8 ((q % 128 + 128 : Nat) : Int)) rfl (by simp) rfl (by unfold maxLen; omega) (by omega) (by simp; omega) ?_); intro v' w1 hown1 hb2 _)
        go_roundw
        case rel => exact ⟨p ++ [q % 128 + 128], q / 128, by simp, by omega, by rw [HE.out, E1.out]; simp, by simpa [nums, Nat.add_assoc] using hown1, (hb1.alloc (Nat.le_trans hb hzz) _).trans hb2⟩
        case measure => simp [intOf]; omega

theorem puts_w (a : Option Addr) (m cap : Nat) (l : List Nat) (n : Int) (w : World) (hr : Nums .u8 w a m cap l) (hn : -9223372036854775808 ≤ n ∧ n ≤ 9223372036854775807) (hm : m ≤ 100000) :
    Calls Tryd.prog 38 #[.slice a m cap, .int .i64 n] w fun e w' => ∃ v', e = .returned v' ∧ w'.ownsRow w.heap.size 5 1 v' (m + (enc (zig n)).length) (nums .u8 (l ++ enc (zig n))) ∧ Below w.heap.size w w' := by
  go_enter Tryd.func38, Tryd.ntmps38
  go_wp2_with fail
  refine (clone_w a m cap l _ hr (by omega)).mono ?_
  rintro e w1 ⟨v, rfl, hv, hb1⟩
  go_wp2_with fail
  refine (put_w v m l n w.heap.size _ hv hn hm hb1.size).mono ?_
  rintro e w2 ⟨v', rfl, hv', hb2⟩
  go_wp2_with fail
  go_ret
  exact ⟨v', rfl, hv', hb1.trans hb2⟩
set_option maxHeartbeats 800000 in
theorem putt_w (a : Option Addr) (m cap : Nat) (l : List Nat) (s : ByteArray) (w : World) (hr : Nums .u8 w a m cap l) (hs : s.size ≤ 1000) (hm : m ≤ 100000) :
    Calls Tryd.prog 46 #[.slice a m cap, .string s] w fun e w' => ∃ v', e = .returned v' ∧ w'.ownsRow w.heap.size 5 1 v' (m + (enc (zig s.size)).length + s.size) (nums .u8 (l ++ enc (zig s.size) ++ txt s)) ∧ Below w.heap.size w w' := by
  have hn : -9223372036854775808 ≤ (s.size : Int) ∧ (s.size : Int) ≤ 9223372036854775807 := by omega
  have ht := enc_ten (zig_lt hn)
  go_enter Tryd.func46, Tryd.ntmps46
  go_wp2_with fail
  refine (clone_w a m cap l _ hr (by omega)).mono ?_
  rintro e w1 ⟨v, rfl, hv, hb1⟩
  go_wp2_with fail
  refine (put_w v m l s.size w.heap.size _ hv hn hm hb1.size).mono ?_
  rintro e w2 ⟨v', rfl, hv', hb2⟩
  have hz := hb2.size
  have hz1 := hb1.size
  go_wp2_with (at_builtin; go_must (refine wpList_text rfl _ _ rfl w.heap.size v' _ _ rfl hv' s rfl (by omega) (by omega) ?_); intro v3 w3 o3 hb3)
  go_ret
  exact ⟨v3, rfl, o3, (hb1.trans hb2).trans hb3⟩
end Go.Proofs.YtdgbgdkfoeoppaaDoor.Wire
