/- The walks of package crc: each function computes the plain sum's words. -/
import Derived.Test.YtagbnacffiagcaaDoorProg
import Derived.Test.YtagbnacffiagcaaDoorCrcPlain
import Derived.Deep.DeepMust
import Derived.Lib.SlBytesConst
import Derived.Test.YtagbnacffiagcaaDoorMem
import Derived.Test.YtagbnacffiagcaaDoorRefWalk
namespace Go.Proofs.YtagbnacffiagcaaDoor.CrcW
open Go Go.RowKit Go.Proofs.YtagbnacffiagcaaDoor.Mem Go.Proofs.YtagbnacffiagcaaDoor.RefW
set_option linter.unusedVariables false
set_option maxRecDepth 100000

theorem ret_u32 {a b : Int} (h : a = b) : Ending.returned (.int .u32 a) = .returned (.int .u32 b) := by rw [h]

set_option maxHeartbeats 400000 in
theorem step_w (n : Nat) (hn : n < Crc.W) (w : World) :
    Calls Tryd.prog 109 #[.int .u32 n] w fun e w' => e = .returned (.int .u32 (Crc.step n)) ∧ w = w' := by
  go_enter Tryd.func109, Tryd.ntmps109
  go_wp2
  go_loop [0, 4] (fun x i => ∃ k : Nat, k ≤ 8 ∧ i = .int .i64 k ∧ x = .int .u32 (Crc.bits k n)) (fun _ i => 8 - (intOf i).toNat)
  case atStart => exact ⟨0, by omega, rfl, rfl⟩
  case round =>
    obtain ⟨k, hk, rfl, rfl⟩ := hrel
    have hm : Crc.bits k n < 4294967296 := Crc.bits_lt k hn
    have hs : Hid (Crc.bits (k + 1) n = Crc.bit (Crc.bits k n)) := Crc.bits_snoc k n
    generalize he : Crc.bits k n = m at hm hs ⊢
    have HE : Hid (Crc.bits k n = m) := he
    clear he
    by_cases hlt : k < 8
    · go_wp2
      all_goals
        go_round
        case rel =>
          refine ⟨k + 1, by omega, by go_num, ?_⟩
          rw [hs.out]
          have hand : bits .and .u32 (m : Int) 1 = ((m % 2 : Nat) : Int) := by
            have := u32_and_nat m 1 hm (by omega)
            rw [Nat.and_one_is_mod] at this
            exact this
          rename_i hb
          rw [hand] at hb
          simp at hb
          unfold Crc.bit
          first
            | (rw [if_pos (by omega)]
               have := u32_xor_nat (m / 2) 2197175160 (by omega) (by omega)
               rw [show ((m : Int) / 2) = ((m / 2 : Nat) : Int) by omega]
               exact congrArg _ this)
            | (rw [if_neg (by omega)]; go_num)
        case measure => simp [intOf]; omega
    · obtain rfl : k = 8 := by omega
      go_wp2
      go_ret
      exact ⟨ret_u32 (by rw [Crc.step_def, HE.out]), rfl⟩

theorem not_u32 (m : Nat) (hm : m < 4294967296) : bits .xor .u32 (IntKind.max .u32) (m : Int) = ((m ^^^ 4294967295 : Nat) : Int) := by
  have := u32_xor_nat 4294967295 m (by omega) hm
  rw [Nat.xor_comm m]
  exact this
theorem Bytes_take {l : List Nat} (h : Crc.Bytes l) (k : Nat) : Crc.Bytes (l.take k) := fun x hx => h x (List.mem_of_mem_take hx)

set_option maxHeartbeats 400000 in
theorem sum_w (a : Option Addr) (n cap : Nat) (l : List Nat) (w : World) (hr : Nums .u8 w a n cap l) (hb : Crc.Bytes l) :
    Calls Tryd.prog 73 #[.slice a n cap] w fun e w' => e = .returned (.int .u32 (Crc.sum l)) ∧ w = w' := by
  have hbd := hr.bound
  obtain ⟨hb1, hb2⟩ := hbd
  have HL : Hid (l.length = n) := hr.len
  go_enter Tryd.func73, Tryd.ntmps73
  go_wp2
  go_loop [3, 8] (fun s i => ∃ k : Nat, k ≤ n ∧ i = .int .i64 k ∧ s = .int .u32 (Crc.run (Crc.W - 1) (l.take k))) (fun _ i => n - (intOf i).toNat)
  case atStart => exact ⟨0, by omega, rfl, congrArg (Value.int .u32) (show (4294967295 : Int) = ((Crc.W - 1 : Nat) : Int) by decide)⟩
  case round =>
    obtain ⟨k, hk, rfl, rfl⟩ := hrel
    have hm : Crc.run (Crc.W - 1) (l.take k) < 4294967296 := Crc.run_lt _ Crc.top_lt (Bytes_take hb k)
    by_cases hlt : k < n
    · have hkl : k < l.length := by rw [HL.out]; exact hlt
      obtain ⟨b, off, rfl, hc⟩ := hr.at hkl
      have hcb : l[k] < 256 := hb _ (List.getElem_mem _)
      have HS : Hid (Crc.run (Crc.W - 1) (l.take (k + 1)) = Crc.step (Crc.run (Crc.W - 1) (l.take k) ^^^ l[k])) := by
        show _ = _
        rw [take_snoc l k hkl, Crc.run_snoc]
      generalize l[k] = c at hc hcb HS
      generalize Crc.run (Crc.W - 1) (l.take k) = m at hm HS ⊢
      have hx := u32_xor_nat m c hm (by omega)
      have hxl : m ^^^ c < Crc.W := Crc.xor_lt hm (Crc.byte_lt hcb)
      clear hr
      go_wp2_with (go_at_call 109; refine (step_w _ hxl _).mono ?_; rintro e w' ⟨rfl, rfl⟩)
      go_round
      case rel => exact ⟨k + 1, by omega, by go_num, by rw [HS.out]⟩
      case measure => simp [intOf]; omega
    · obtain rfl : k = n := by omega
      have HE : Hid (l.take k = l) := List.take_of_length_le (by rw [HL.out]; exact Nat.le_refl _)
      rw [HE.out] at hm ⊢
      generalize hs : Crc.run (Crc.W - 1) l = m at hm ⊢
      have HS : Hid (Crc.sum l = m ^^^ 4294967295) := by show _ = _; unfold Crc.sum; rw [hs]; rfl
      clear hs
      go_wp2
      go_ret
      exact ⟨ret_u32 (by rw [HS.out]; exact not_u32 m hm), rfl⟩

theorem xor_byteOf (x t k : Nat) (hx : x < 256) : bits .xor .u8 (x : Int) ((t : Int) / 2 ^ (8 * k) % 256) = ((x ^^^ Crc.byteOf t k : Nat) : Int) := by
  have e : ((t : Int) / 2 ^ (8 * k) % 256) = ((Crc.byteOf t k : Nat) : Int) := by
    unfold Crc.byteOf
    rw [Nat.shiftRight_eq_div_pow]
    simp
  rw [e]
  exact u8_xor_nat x _ hx (Crc.byteOf_lt t k)
theorem turn1_in {m : List Nat} {p t k x : Nat} (hpk : p + k < m.length) (hx : m[p + k] = x) : Crc.turn1 m (p : Int) t k = m.set (p + k) (x ^^^ Crc.byteOf t k) := by
  unfold Crc.turn1
  rw [if_pos (by omega)]
  simp only [Int.toNat_natCast]
  rw [List.getD_eq_getElem?_getD, List.getElem?_eq_getElem hpk, hx]
  rfl
theorem turn1_out {m : List Nat} {at_ : Int} {t k : Nat} (h : ¬ (0 ≤ at_ ∧ at_ < (m.length : Int) - k)) : Crc.turn1 m at_ t k = m := by
  unfold Crc.turn1; rw [if_neg h]

set_option maxHeartbeats 1600000 in
/-- some of the bytes turned -/
theorem turned_w (a : Option Addr) (n cap : Nat) (l : List Nat) (at_ : Int) (t : Nat) (w : World) (hr : Nums .u8 w a n cap l) (hbt : Crc.Bytes l) (hn : n ≤ 140737488355328)
    (hlo : -9223372036854775808 ≤ at_) (hhi : at_ ≤ 9223372036854775807) (ht : t < 4294967296) :
    Calls Tryd.prog 78 #[.slice a n cap, .int .i64 at_, .int .u32 t] w fun e w' => ∃ v, e = .returned v ∧ w'.ownsRow w.heap.size 5 1 v n (nums .u8 (Crc.turned l at_ t)) ∧ Below w.heap.size w w' := by
  have hbd := hr.bound
  obtain ⟨hb1, hb2⟩ := hbd
  have HL : Hid (l.length = n) := hr.len
  go_enter Tryd.func78, Tryd.ntmps78
  go_wp2_with (at_builtin; go_must (refine wpList_app elU8 rfl _ _ rfl w.heap.size (.slice none 0 0) 0 [] rfl (World.ownsRow_nil _ _ _ _) a n cap (nums .u8 l) rfl hr (nums_oneCell _ _) (by unfold maxLen; omega) (by omega) (Nat.le_refl _) ?_); intro v1 w1 own1 hb1 _)
  rw [Nat.zero_add, List.nil_append] at own1
  obtain ⟨a1, c1, rfl, _⟩ := ownsRow_slice own1
  clear hr
  have z1 := hb1.size
  have hcap : n ≤ c1 ∧ c1 ≤ 9223372036854775807 := by
    have h := (Row.owned own1).2; have := h.2.2.1; unfold maxLen at this; exact ⟨h.2.1, by omega⟩
  go_loopw [11] (fun i wr => ∃ k : Nat, k ≤ 4 ∧ i = .int .i64 k ∧ wr.ownsRow w.heap.size 5 1 (.slice a1 n c1) n (nums .u8 (Crc.turnK l at_ t k)) ∧ Below w.heap.size w wr) (fun i _ => 4 - (intOf i).toNat)
  case atStart => exact ⟨0, by omega, rfl, own1, hb1⟩
  case round =>
    obtain ⟨k, hk, rfl, hown, hb⟩ := hrel
    have HT := hid (show Crc.turnK l at_ t (k + 1) = Crc.turn1 (Crc.turnK l at_ t k) at_ t k from rfl)
    have hbt' := Crc.turnK_bytes hbt at_ t k
    have HL' : Hid ((Crc.turnK l at_ t k).length = n) := hid (by rw [Crc.turnK_length]; exact HL.out)
    generalize he : Crc.turnK l at_ t k = m at hown HT hbt' HL'
    have HE := hid he
    clear he
    clear own1
    by_cases hlt : k < 4
    · by_cases hin : 0 ≤ at_ ∧ at_ < (n : Int) - k
      · obtain ⟨h0, h1⟩ := hin
        obtain ⟨p, rfl⟩ := Int.eq_ofNat_of_zero_le h0
        obtain ⟨g, rfl⟩ := own_some hown (by omega)
        have hpk : p + k < m.length := by rw [HL'.out]; omega
        have hc := OwnN.cell hown hpk
        have hf := World.ownsRow.frozenAt hown (p + k)
        have hcb : m[p + k] < 256 := hbt' _ (List.getElem_mem hpk)
        generalize hx : m[p + k] = x at hc hcb
        have HX := hid hx
        clear hx
        have HO := hid hown
        clear hown
        go_wp2
        go_region
        all_goals go_wp2
        go_roundw
        case rel =>
          refine ⟨k + 1, by omega, by go_num, ?_, (hb.setCell (by simpa using (World.ownsRow.lt HO.out g rfl).1) _).drew⟩
          rw [xor_byteOf x t k hcb, HT.out, turn1_in hpk HX.out]
          exact World.ownsRow.drew (OwnN.set HO.out (p + k) _)
        case measure => simp [intOf]; omega
      · rw [turn1_out (by rw [HL'.out]; exact hin)] at HT
        by_cases h0 : 0 ≤ at_
        · have h1 : (n : Int) - k ≤ at_ := by omega
          clear hin
          go_wp2
          go_roundw
          case rel => exact ⟨k + 1, by omega, by go_num, by rw [HT.out]; exact hown, hb⟩
          case measure => simp [intOf]; omega
        · have h1 : at_ < 0 := by omega
          clear hin h0
          go_wp2
          go_roundw
          case rel => exact ⟨k + 1, by omega, by go_num, by rw [HT.out]; exact hown, hb⟩
          case measure => simp [intOf]; omega
    · obtain rfl : k = 4 := by omega
      have HM : Hid (Crc.turned l at_ t = m) := hid (by rw [← HE.out]; rfl)
      go_wp2
      go_ret
      exact ⟨_, rfl, by rw [HM.out]; exact hown, hb⟩

end Go.Proofs.YtagbnacffiagcaaDoor.CrcW
