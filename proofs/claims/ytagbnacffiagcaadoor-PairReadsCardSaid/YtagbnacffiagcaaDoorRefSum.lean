/- The document's sum (breviaryref1): walks. -/
import Derived.Test.YtagbnacffiagcaaDoorCrcWalk
namespace Go.Proofs.YtagbnacffiagcaaDoor.RSumW
open Go Go.RowKit Go.Proofs.YtagbnacffiagcaaDoor.Mem Go.Proofs.YtagbnacffiagcaaDoor.RefW Go.Proofs.YtagbnacffiagcaaDoor.CrcW
set_option linter.unusedVariables false
set_option maxRecDepth 100000

set_option maxHeartbeats 800000 in
/-- the document's step -/
theorem rstep_w (m c : Nat) (hm0 : m < 4294967296) (hc : c < 256) (w : World) :
    Calls Tryd.prog 74 #[.int .u32 m, .int .u8 c] w fun e w' => e = .returned (.int .u32 (Crc.step (m ^^^ c))) ∧ w = w' := by
  have hx := u32_xor_nat m c hm0 (by omega)
  have hxl : m ^^^ c < 4294967296 := Crc.xor_lt hm0 (Crc.byte_lt hc)
  generalize m ^^^ c = n at hx hxl ⊢
  go_enter Tryd.func74, Tryd.ntmps74
  go_wp2
  clear hx
  go_loop [0, 5] (fun x i => ∃ k : Nat, k ≤ 8 ∧ i = .int .i64 k ∧ x = .int .u32 (Crc.bits k n)) (fun _ i => 8 - (intOf i).toNat)
  case atStart => exact ⟨0, by omega, rfl, rfl⟩
  case round =>
    obtain ⟨k, hk, rfl, rfl⟩ := hrel
    have hm : Crc.bits k n < 4294967296 := Crc.bits_lt k hxl
    have hs : Hid (Crc.bits (k + 1) n = Crc.bit (Crc.bits k n)) := Crc.bits_snoc k n
    generalize he : Crc.bits k n = p at hm hs ⊢
    have HE := hid he
    clear he
    by_cases hlt : k < 8
    · go_wp2
      all_goals
        go_round
        case rel =>
          refine ⟨k + 1, by omega, by go_num, ?_⟩
          rw [hs.out]
          have hand : bits .and .u32 (p : Int) 1 = ((p % 2 : Nat) : Int) := by
            have := u32_and_nat p 1 hm (by omega)
            rw [Nat.and_one_is_mod] at this
            exact this
          rename_i hb
          rw [hand] at hb
          simp at hb
          unfold Crc.bit
          first
            | (rw [if_pos (by omega)]
               have := u32_xor_nat (p / 2) 2197175160 (by omega) (by omega)
               rw [show ((p : Int) / 2) = ((p / 2 : Nat) : Int) by omega]
               exact congrArg _ this)
            | (rw [if_neg (by omega)]; go_num)
        case measure => simp [intOf]; omega
    · obtain rfl : k = 8 := by omega
      go_wp2
      go_ret
      exact ⟨ret_u32 (by rw [Crc.step_def, HE.out]), rfl⟩

set_option maxHeartbeats 800000 in
/-- the document's sum -/
theorem rsum_w (a : Option Addr) (n cap : Nat) (l : List Nat) (w : World) (hr : Nums .u8 w a n cap l) (hb : Crc.Bytes l) :
    Calls Tryd.prog 14 #[.slice a n cap] w fun e w' => e = .returned (.int .u32 (Crc.sum l)) ∧ w = w' := by
  have hbd := hr.bound
  obtain ⟨hb1, hb2⟩ := hbd
  have HL : Hid (l.length = n) := hr.len
  go_enter Tryd.func14, Tryd.ntmps14
  go_wp2
  go_loop [3, 4] (fun s i => ∃ k : Nat, k ≤ n ∧ i = .int .i64 k ∧ s = .int .u32 (Crc.run (Crc.W - 1) (l.take k))) (fun _ i => n - (intOf i).toNat)
  case atStart => exact ⟨0, by omega, rfl, congrArg (Value.int .u32) (show (4294967295 : Int) = ((Crc.W - 1 : Nat) : Int) by decide)⟩
  case round =>
    obtain ⟨k, hk, rfl, rfl⟩ := hrel
    have hm : Crc.run (Crc.W - 1) (l.take k) < 4294967296 := Crc.run_lt _ Crc.top_lt (Bytes_take hb k)
    by_cases hlt : k < n
    · have hkl : k < l.length := by rw [HL.out]; exact hlt
      obtain ⟨b, off, rfl, hc⟩ := hr.at hkl
      have hcb : l[k] < 256 := hb _ (List.getElem_mem _)
      have HS : Hid (Crc.run (Crc.W - 1) (l.take (k + 1)) = Crc.step (Crc.run (Crc.W - 1) (l.take k) ^^^ l[k])) := by
        show _ = _
        rw [take_snoc l k hkl, Crc.run_snoc]
      generalize l[k] = c at hc hcb HS
      generalize Crc.run (Crc.W - 1) (l.take k) = m at hm HS ⊢
      clear hr
      go_wp2_with (go_at_call 74; refine (rstep_w m c hm hcb _).mono ?_; rintro e w' ⟨rfl, rfl⟩)
      go_round
      case rel => exact ⟨k + 1, by omega, by go_num, by rw [HS.out]⟩
      case measure => simp [intOf]; omega
    · obtain rfl : k = n := by omega
      have HE : Hid (l.take k = l) := List.take_of_length_le (by rw [HL.out]; exact Nat.le_refl _)
      rw [HE.out] at hm ⊢
      generalize hs : Crc.run (Crc.W - 1) l = m at hm ⊢
      have HS : Hid (Crc.sum l = m ^^^ 4294967295) := by show _ = _; unfold Crc.sum; rw [hs]; rfl
      clear hs
      go_wp2
      go_ret
      exact ⟨ret_u32 (by rw [HS.out]; exact not_u32 m hm), rfl⟩
end Go.Proofs.YtagbnacffiagcaaDoor.RSumW
