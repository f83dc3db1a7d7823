/- The walk of a reader's number. -/
import Derived.Test.YtdgbgdkfoeoppaaDoorWirePut
import Derived.Test.YtdgbgdkfoeoppaaDoorSeeWalk
import Derived.BigQuiet
namespace Go.Proofs.YtdgbgdkfoeoppaaDoor.Wire
open Go Go.RowKit Go.Proofs.YtdgbgdkfoeoppaaDoor.Mem Go.Proofs.YtdgbgdkfoeoppaaDoor.RefW Go.Proofs.YtdgbgdkfoeoppaaDoor.Text
set_option linter.unusedVariables false
set_option maxRecDepth 100000

/-- a reader: its block's cells; its bytes -/
structure Rd (w : World) (g : Nat) (a : Option Addr) (n cap : Nat) (l : List Nat) (p : Nat) (E : Value) : Prop where
  blk : w.heap[g]? = some (.cells #[.slice a n cap, .int .i64 (p : Int), E] 83 (0, 0))
  row : Nums .u8 w a n cap l
  byte : ∀ x ∈ l, x < 256
  le : p ≤ n
  small : n ≤ 100000
  apart : ∀ b o, a = some ⟨b, o, none⟩ → b ≠ g
theorem Rd.cells {w : World} {g : Nat} {a : Option Addr} {n cap : Nat} {l : List Nat} {p : Nat} {E : Value} (h : Rd w g a n cap l p E) :
    w.cell? ⟨g, 0, none⟩ = some (.slice a n cap) ∧ w.cell? ⟨g, 1, none⟩ = some (.int .i64 (p : Int)) ∧ w.cell? ⟨g, 2, none⟩ = some E ∧ w.frozen? ⟨g, 1, none⟩ = false ∧ w.frozen? ⟨g, 2, none⟩ = false := by
  have := h.blk
  simp [World.cell?, World.frozen?, this]
theorem Rd.lt {w : World} {g : Nat} {a : Option Addr} {n cap : Nat} {l : List Nat} {p : Nat} {E : Value} (h : Rd w g a n cap l p E) : g < w.heap.size :=
  World.block_lt_of_cell? w _ h.cells.1
theorem Rd.below {w w' : World} {g : Nat} {a : Option Addr} {n cap : Nat} {l : List Nat} {p : Nat} {E : Value} (h : Rd w g a n cap l p E) (hb : Below w.heap.size w w') : Rd w' g a n cap l p E :=
  ⟨by rw [hb.block _ h.lt]; exact h.blk, h.row.below hb, h.byte, h.le, h.small, h.apart⟩

theorem xor_i64_zero (a : Nat) (h : a < 9223372036854775808) : bits .xor .i64 (a : Int) 0 = (a : Int) := by
  show IntKind.i64.wrap ((BitVec.ofInt 64 (a : Int) ^^^ BitVec.ofInt 64 0).toNat : Int) = _
  rw [show BitVec.ofInt 64 0 = 0#64 by decide, BitVec.xor_zero, BitVec.ofInt_natCast, BitVec.toNat_ofNat, Nat.mod_eq_of_lt (by omega), IntKind.wrap_i64]
  omega
theorem xor_i64_ones (a : Nat) (h : a < 9223372036854775808) : bits .xor .i64 (a : Int) (-1) = -(a : Int) - 1 := by
  show IntKind.i64.wrap ((BitVec.ofInt 64 (a : Int) ^^^ BitVec.ofInt 64 (-1)).toNat : Int) = _
  rw [show BitVec.ofInt 64 (-1) = BitVec.allOnes 64 by decide, BitVec.xor_allOnes, BitVec.toNat_not, BitVec.ofInt_natCast, BitVec.toNat_ofNat, Nat.mod_eq_of_lt (by omega), IntKind.wrap_i64]
  omega
theorem zag_w (t : Nat) (h : t < 18446744073709551616) : bits .xor .i64 ((t : Int) / 2) (wrap64 (-wrap64 (bits .and .u64 (t : Int) 1))) = zag t := by
  have e1 : bits .and .u64 (t : Int) 1 = ((t % 2 : Nat) : Int) := by
    rw [show (1 : Int) = ((1 : Nat) : Int) from rfl, bits_and_u64_nat _ _ h (by decide), Nat.and_one_is_mod]
  have e2 : ((t : Int) / 2) = ((t / 2 : Nat) : Int) := by omega
  rw [e1, e2]
  unfold zag
  rcases Nat.mod_two_eq_zero_or_one t with h0 | h0
  · rw [h0, if_pos rfl, show wrap64 (-wrap64 ((0 : Nat) : Int)) = 0 by simp [wrap64], xor_i64_zero _ (by omega)]
  · rw [h0, if_neg (by decide), show wrap64 (-wrap64 ((1 : Nat) : Int)) = -1 by simp [wrap64], xor_i64_ones _ (by omega)]
/-- what is answered -/
def ans (E0 E1 : Addr) : Got → Value
  | .ends => .tuple #[.int .i64 0, .int .i64 0, SeeW.ev E0]
  | .shape => .tuple #[.int .i64 0, .int .i64 0, SeeW.ev E1]
  | .num z k => .tuple #[.int .i64 (zag z), .int .i64 (k : Int), .nilIface]
theorem and_not (c : Nat) (h : c < 256) : bits .andNot .u8 (c : Int) 128 = ((c % 128 : Nat) : Int) := by
  have : ∀ c : Fin 256, bits .andNot .u8 ((c.val : Nat) : Int) 128 = ((c.val % 128 : Nat) : Int) := by decide
  exact this ⟨c, h⟩
theorem pow7 (k : Nat) : 2 ^ (7 * k) = 128 ^ k := by rw [Nat.pow_mul]
theorem or_num (acc c k : Nat) (hc : c < 256) (hk : k ≤ 9) (h9 : k = 9 → c ≤ 1) (ha : acc < 128 ^ k) :
    bits .or .u64 (acc : Int) (IntKind.u64.wrap (IntKind.u64.wrap (bits .andNot .u8 (c : Int) 128) * 2 ^ (7 * k))) = ((acc + c % 128 * 128 ^ k : Nat) : Int) ∧ acc + c % 128 * 128 ^ k < 18446744073709551616 := by
  have hb : acc + c % 128 * 128 ^ k < 18446744073709551616 := by
    rcases Nat.lt_or_ge k 9 with h | h
    · have h1 : 128 ^ (k + 1) ≤ 128 ^ 9 := Nat.pow_le_pow_right (by decide) (by omega)
      have h2 : c % 128 * 128 ^ k ≤ 127 * 128 ^ k := Nat.mul_le_mul_right _ (by omega)
      rw [Nat.pow_succ] at h1
      have h3 : (128 : Nat) ^ 9 = 9223372036854775808 := by decide
      omega
    · obtain rfl : k = 9 := by omega
      have := h9 rfl
      have h3 : (128 : Nat) ^ 9 = 9223372036854775808 := by decide
      rw [h3] at ha ⊢
      have : c % 128 ≤ 1 := by omega
      have : c % 128 * 9223372036854775808 ≤ 1 * 9223372036854775808 := Nat.mul_le_mul_right _ this
      omega
  refine ⟨?_, hb⟩
  have e1 : IntKind.u64.wrap (((c % 128 : Nat) : Int)) = ((c % 128 : Nat) : Int) := by rw [IntKind.wrap_u64]; omega
  have e2 : ((c % 128 : Nat) : Int) * 2 ^ (7 * k) = ((c % 128 * 128 ^ k : Nat) : Int) := by
    rw [← pow7]; push_cast; rfl
  have e3 : IntKind.u64.wrap (((c % 128 * 128 ^ k : Nat) : Int)) = ((c % 128 * 128 ^ k : Nat) : Int) := by rw [IntKind.wrap_u64]; omega
  rw [and_not c hc, e1, e2, e3, bits_or_u64_nat _ _ (by omega) (by omega)]
  have e4 := Nat.two_pow_add_eq_or_of_lt (i := 7 * k) (b := acc) (by rw [pow7]; exact ha) (c % 128)
  rw [pow7] at e4
  rw [Nat.or_comm, Nat.mul_comm (c % 128), ← e4, Nat.add_comm]

set_option maxHeartbeats 3200000 in
theorem number_w (g : Nat) (a : Option Addr) (n cap : Nat) (l : List Nat) (p : Nat) (E : Value) (E0 E1 : Addr) (w : World) (hR : Rd w g a n cap l p E) (h0 : Err.At w 2 E0) (h1 : Err.At w 3 E1) :
    Calls Tryd.prog 62 #[.pointer (some ⟨g, 0, none⟩)] w fun e w' => e = .returned (ans E0 E1 (dec 0 0 (l.drop p))) ∧ Below w.heap.size w w' := by
  have HL := hid hR.row.len
  have hle := hR.le
  have hsm := hR.small
  go_enter Tryd.func62, Tryd.ntmps62
  go_wp2
  go_loopw [5, 6] (fun z i wr => ∃ (k acc : Nat), i = .int .i64 (k : Int) ∧ z = .int .u64 (acc : Int) ∧ k ≤ 9 ∧ p + k ≤ n ∧ acc < 128 ^ k ∧ dec 0 0 (l.drop p) = dec k acc (l.drop (p + k)) ∧ Below w.heap.size w wr) (fun _ i _ => 10 - (intOf i).toNat)
  case atStart => exact ⟨0, 0, rfl, rfl, by omega, by omega, by decide, rfl, Below.refl _ _⟩
  case round =>
    obtain ⟨k, acc, rfl, rfl, hk, hpk, hacc, hd, hb⟩ := hrel
    have HD := hid hd
    have R := hR.below hb
    obtain ⟨c0, c1, c2, _, _⟩ := R.cells
    obtain ⟨e01, e02⟩ := h0.below hb
    obtain ⟨e11, e12⟩ := h1.below hb
    have g0 := World.block_lt_of_cell? _ _ e01
    have g1 := World.block_lt_of_cell? _ _ e11
    have hw1 : IntKind.i64.wrap ((p : Int) + (k : Int)) = (p : Int) + (k : Int) := IntWalk.i64_in _ (by omega)
    clear hd h0 h1
    by_cases hlt : p + k < n
    · have hkl : p + k < l.length := by rw [HL.out]; exact hlt
      obtain ⟨b0, o0, rfl, hc0⟩ := R.row.at hkl
      have HS := hid (List.drop_eq_getElem_cons hkl)
      have hx := R.byte _ (List.getElem_mem hkl)
      generalize l[p + k] = c at hc0 HS hx
      have d1 : decide ((n : Int) ≤ (p : Int) + (k : Int)) = false := by rw [decide_eq_false_iff_not]; omega
      have i1 : (0 : Int) ≤ (p : Int) + (k : Int) ∧ (p : Int) + (k : Int) < n := by omega
      clear hR R
      by_cases hs : k = 9 ∧ 1 < c
      · obtain ⟨rfl, hs⟩ := hs
        have HC := hid (show dec 9 acc (l.drop (p + 9)) = .shape by rw [HS.out, dec, if_pos ⟨rfl, hs⟩])
        have d2 : decide ((1 : Int) < (c : Int)) = true := by rw [decide_eq_true_eq]; omega
        go_wp2
        go_quiet (fail)
        go_wp2
        go_quiet (fail)
        go_wp2
        go_region
        go_wp2
        all_goals refine bodyPost_ret (v := .tuple #[.int .i64 0, .int .i64 0, SeeW.ev E1]) (by simp [results, Tryd.results62, go_sem]) rfl ⟨?_, ?_⟩
        all_goals first | exact below_drewN hb _ | rw [HD.out, HC.out]; rfl
      · obtain ⟨ho, ht⟩ := or_num acc c k hx hk (by omega) hacc
        have HG := hid (show dec k acc (c :: l.drop (p + k + 1)) = if 128 ≤ c then dec (k + 1) (acc + c % 128 * 128 ^ k) (l.drop (p + k + 1)) else if c = 0 ∧ 0 < k then .shape else .num (acc + c * 128 ^ k) (k + 1) by rw [dec, if_neg hs])
        have HT := hid (rfl : acc + c % 128 * 128 ^ k = acc + c % 128 * 128 ^ k)
        have d2 : ((k : Int) == 9) = false ∨ (((k : Int) == 9) = true ∧ decide ((1 : Int) < (c : Int)) = false) := by
          by_cases e : k = 9
          · exact .inr ⟨by simp; omega, by rw [decide_eq_false_iff_not]; omega⟩
          · exact .inl (by simp; omega)
        by_cases h128 : 128 ≤ c
        · have hk9 : k < 9 := by omega
          have d3 : ((k : Int) == 9) = false := by simp; omega
          have d4 : decide ((128 : Int) ≤ (c : Int)) = true := by rw [decide_eq_true_eq]; omega
          obtain ⟨t, ht'⟩ : ∃ t, t = acc + c % 128 * 128 ^ k := ⟨_, rfl⟩
          rw [← ht'] at ho
          have HT' := hid ht'
          clear d2 ht' ht HT
          go_wp2
          go_quiet (fail)
          go_wp2
          go_quiet (fail)
          go_wp2
          go_roundw
          case rel =>
            refine ⟨k + 1, t, by go_num, rfl, by omega, by omega, ?_, ?_, below_drewN hb _⟩
            · rw [HT'.out, Nat.pow_succ]
              have : c % 128 * 128 ^ k ≤ 127 * 128 ^ k := Nat.mul_le_mul_right _ (by omega)
              omega
            · rw [HD.out, HS.out, HG.out, if_pos h128, HT'.out]
              rfl
          case measure => simp [intOf]; omega
        · have d4 : decide ((128 : Int) ≤ (c : Int)) = false := by rw [decide_eq_false_iff_not]; omega
          by_cases hc0' : c = 0 ∧ 0 < k
          · obtain ⟨rfl, hk0⟩ := hc0'
            have HC := hid (show dec 0 0 (l.drop p) = .shape by rw [HD.out, HS.out, HG.out, if_neg (by decide), if_pos ⟨rfl, hk0⟩])
            have d5 : decide ((0 : Int) < (k : Int)) = true := by rw [decide_eq_true_eq]; omega
            clear ho ht HT
            rcases d2 with d2 | ⟨d2, d2'⟩
            all_goals
              go_wp2
              go_quiet (fail)
              go_wp2
              go_quiet (fail)
              go_wp2
              go_region
              go_wp2
              all_goals refine bodyPost_ret (v := .tuple #[.int .i64 0, .int .i64 0, SeeW.ev E1]) (by simp [results, Tryd.results62, go_sem]) rfl ⟨?_, ?_⟩
              all_goals first | exact below_drewN hb _ | rw [HC.out]; rfl
          · have HC := hid (show dec 0 0 (l.drop p) = .num (acc + c % 128 * 128 ^ k) (k + 1) by rw [HD.out, HS.out, HG.out, if_neg h128, if_neg hc0', Nat.mod_eq_of_lt (by omega)])
            obtain ⟨t, ht'⟩ : ∃ t, t = acc + c % 128 * 128 ^ k := ⟨_, rfl⟩
            rw [← ht'] at ho ht
            have HT' := hid ht'
            have hz := zag_w t ht
            clear ht' HT
            rcases d2 with d2 | ⟨d2, d2'⟩
            case' inr =>
              obtain rfl : k = 9 := by simp at d2; omega
              rw [show (2 : Int) ^ (7 * 9) = 9223372036854775808 by decide] at ho
              have d5 : ((c : Int) == 0) = false := by simp; omega
            case' inl =>
              have d5 : ((c : Int) == 0 && decide ((0 : Int) < (k : Int))) = false := by
                rw [Bool.and_eq_false_iff, beq_eq_false_iff_ne, decide_eq_false_iff_not]; omega
            all_goals (go_wp2; go_quiet (fail); go_wp2; go_quiet (fail); go_wp2)
            all_goals first | (exfalso; omega) | refine bodyPost_ret (v := .tuple #[.int .i64 (zag t), .int .i64 ((_ : Nat) : Int), .nilIface]) (by simp [results, Tryd.results62, go_sem]; rfl) rfl ⟨?_, ?_⟩
            all_goals first | exact below_drewN hb _ | (rw [HC.out, ← HT'.out]; rfl)
    · have d1 : decide ((n : Int) ≤ (p : Int) + (k : Int)) = true := by rw [decide_eq_true_eq]; omega
      have HE := hid (show l.drop (p + k) = [] from List.drop_eq_nil_of_le (by rw [HL.out]; omega))
      clear hR R
      go_wp2
      go_quiet (fail)
      go_wp2
      go_region
      go_wp2
      all_goals refine bodyPost_ret (v := .tuple #[.int .i64 0, .int .i64 0, SeeW.ev E0]) (by simp [results, Tryd.results62, go_sem]) rfl ⟨?_, ?_⟩
      all_goals first | exact below_drewN hb _ | rw [HD.out, HE.out]; rfl
end Go.Proofs.YtdgbgdkfoeoppaaDoor.Wire
