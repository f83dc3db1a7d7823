/- The walk of breviaryref1.Turned. -/
import Derived.Test.YtlljpljfmaaejaaDoorCrcWalk
namespace Go.Proofs.YtlljpljfmaaejaaDoor.CrcL
open Go Go.RowKit Go.Proofs.YtlljpljfmaaejaaDoor.Mem Go.Proofs.YtlljpljfmaaejaaDoor.RefW Go.Proofs.YtlljpljfmaaejaaDoor.CrcW
set_option linter.unusedVariables false
set_option maxRecDepth 100000

set_option maxHeartbeats 1600000 in
/-- the document's: some of the bytes turned -/
theorem rturned_w (a : Option Addr) (n cap : Nat) (l : List Nat) (at_ : Int) (t : Nat) (w : World) (hr : Nums .u8 w a n cap l) (hbt : Crc.Bytes l) (hn : n ≤ 140737488355328)
    (hlo : -9223372036854775808 ≤ at_) (hhi : at_ ≤ 9223372036854775807) (ht : t < 4294967296) :
    Calls Tryd.prog 35 #[.slice a n cap, .int .i64 at_, .int .u32 t] w fun e w' => ∃ v, e = .returned v ∧ w'.ownsRow w.heap.size 5 1 v n (nums .u8 (Crc.turned l at_ t)) ∧ Below w.heap.size w w' := by
  have hbd := hr.bound
  obtain ⟨hb1, hb2⟩ := hbd
  have HL : Hid (l.length = n) := hr.len
  go_enter Tryd.func35, Tryd.ntmps35
  go_wp2_with fail
  refine (bytes_w a n cap l w hr hn).mono ?_
  rintro e w1 ⟨v1, rfl, own1, hb1⟩
  obtain ⟨a1, c1, rfl, _⟩ := ownsRow_slice own1
  clear hr
  have z1 := hb1.size
  have hcap : n ≤ c1 ∧ c1 ≤ 9223372036854775807 := by
    have h := (Row.owned own1).2; have := h.2.2.1; unfold maxLen at this; exact ⟨h.2.1, by omega⟩
  go_wp2
  go_loopw [8] (fun i wr => ∃ k : Nat, k ≤ 4 ∧ i = .int .i64 k ∧ wr.ownsRow w.heap.size 5 1 (.slice a1 n c1) n (nums .u8 (Crc.turnK l at_ t k)) ∧ Below w.heap.size w wr) (fun i _ => 4 - (intOf i).toNat)
  case atStart => exact ⟨0, by omega, rfl, own1, hb1⟩
  case round =>
    obtain ⟨k, hk, rfl, hown, hb⟩ := hrel
    have HT := hid (show Crc.turnK l at_ t (k + 1) = Crc.turn1 (Crc.turnK l at_ t k) at_ t k from rfl)
    have hbt' := Crc.turnK_bytes hbt at_ t k
    have HL' : Hid ((Crc.turnK l at_ t k).length = n) := hid (by rw [Crc.turnK_length]; exact HL.out)
    generalize he : Crc.turnK l at_ t k = m at hown HT hbt' HL'
    have HE := hid he
    clear he
    clear own1
    by_cases hlt : k < 4
    · by_cases hin : 0 ≤ at_ ∧ at_ < (n : Int) - k
      · obtain ⟨h0, h1⟩ := hin
        obtain ⟨p, rfl⟩ := Int.eq_ofNat_of_zero_le h0
        obtain ⟨g, rfl⟩ := own_some hown (by omega)
        have hpk : p + k < m.length := by rw [HL'.out]; omega
        have hc := OwnN.cell hown hpk
        have hf := World.ownsRow.frozenAt hown (p + k)
        have hcb : m[p + k] < 256 := hbt' _ (List.getElem_mem hpk)
        generalize hx : m[p + k] = x at hc hcb
        have HX := hid hx
        clear hx
        have HO := hid hown
        clear hown
        go_wp2
        go_roundw
        case rel =>
          refine ⟨k + 1, by omega, by go_num, ?_, hb.setCell (by simpa using (World.ownsRow.lt HO.out g rfl).1) _⟩
          rw [xor_byteOf x t k hcb, HT.out, turn1_in hpk HX.out]
          exact OwnN.set HO.out (p + k) _
        case measure => simp [intOf]; omega
      · rw [turn1_out (by rw [HL'.out]; exact hin)] at HT
        by_cases h0 : 0 ≤ at_
        · have h1 : (n : Int) - k ≤ at_ := by omega
          clear hin
          go_wp2
          go_roundw
          case rel => exact ⟨k + 1, by omega, by go_num, by rw [HT.out]; exact hown, hb⟩
          case measure => simp [intOf]; omega
        · have h1 : at_ < 0 := by omega
          clear hin h0
          go_wp2
          go_roundw
          case rel => exact ⟨k + 1, by omega, by go_num, by rw [HT.out]; exact hown, hb⟩
          case measure => simp [intOf]; omega
    · obtain rfl : k = 4 := by omega
      have HM : Hid (Crc.turned l at_ t = m) := hid (by rw [← HE.out]; rfl)
      go_wp2
      go_ret
      exact ⟨_, rfl, by rw [HM.out]; exact hown, hb⟩
end Go.Proofs.YtlljpljfmaaejaaDoor.CrcL
