/- The walk of CrcTable. -/
import Derived.Test.YtdgbgdkfoeoppaaCrcLaw
namespace Go.Proofs.Ytdgbgdkfoeoppaa.crcTable
open Go Go.RowKit Go.Proofs.Ytdgbgdkfoeoppaa.Mem Go.Proofs.Ytdgbgdkfoeoppaa.CrcW Go.Proofs.Ytdgbgdkfoeoppaa.CrcL Go.Proofs.Ytdgbgdkfoeoppaa.RefW
set_option linter.unusedVariables false
set_option maxRecDepth 100000

theorem cellOf {w : World} {base g c : Nat} (h : OwnN w base 31 .u32 g 256 c (Crc.tab 256)) {i : Nat} (hi : i < 256) :
    w.cell? ⟨g, i, none⟩ = some (.int .u32 ((Crc.step i : Nat) : Int)) := by
  rw [OwnN.cell h (j := i) (by rw [Crc.tab_length]; exact hi)]
  have h2 := Crc.tab_at hi
  rw [List.getElem?_eq_getElem (by rw [Crc.tab_length]; exact hi)] at h2
  rw [Option.some.inj h2]

set_option maxHeartbeats 1600000 in
theorem done (i j : Nat) (hi : i < 256) (hj : j < 256) (w : World) :
    Calls Try.prog 6 #[.int .u8 i, .int .u8 j] w fun e w' => e = .returned (.bool true) ∧ Below w.heap.size w w' := by
  go_enter Try.func6, Try.ntmps6
  go_wp2_with fail
  refine (first_w _).mono ?_
  rintro e w1 ⟨rfl, hb1⟩
  go_wp2_with fail
  refine (table_w _).mono ?_
  rintro e w2 ⟨g, rfl, own, hb2⟩
  have hb := hb1.trans (hb2.mono hb1.size)
  have h0 : w2.cell? ⟨g, 0, none⟩ = some (.int .u32 0) := by
    have := cellOf own (i := 0) (by omega)
    rw [show Crc.step 0 = 0 by rw [Crc.step_def]; exact Crc.bits_zero 8] at this
    exact this
  have h128 : w2.cell? ⟨g, 128, none⟩ = some (.int .u32 2197175160) := by
    have := cellOf own (i := 128) (by omega)
    rw [show Crc.step 128 = 2197175160 by decide +kernel] at this
    exact this
  have hci := cellOf own hi
  have hcj := cellOf own hj
  have hy := Crc.xor_byte hi hj
  have hcy := cellOf own hy
  rw [Crc.step_xor] at hcy
  have hx8 := u8_xor_nat i j hi hj
  have hxi : Crc.step i < 4294967296 := Crc.step_lt (Crc.byte_lt hi)
  have hxj : Crc.step j < 4294967296 := Crc.step_lt (Crc.byte_lt hj)
  have hx := u32_xor_nat (Crc.step i) (Crc.step j) hxi hxj
  have HS := hid (Crc.step_eq hi hj)
  generalize Crc.step i = xi at *
  generalize Crc.step j = xj at *
  generalize i ^^^ j = y at *
  clear own
  by_cases hij : i = j
  · have hxij : xi = xj := HS.out.2 hij
    subst hij
    subst hxij
    go_wp2
    go_quiet (fail)
    go_wp2
    go_ret
    exact ⟨rfl, below_drewN hb _⟩
  · have hxij : ¬ xi = xj := fun h => hij (HS.out.1 h)
    have e1 : ((i : Int) == (j : Int)) = false := by simp; omega
    have e2 : ((xi : Int) == (xj : Int)) = false := by simp; omega
    clear hij hxij
    go_wp2
    go_quiet (fail)
    go_wp2
    go_ret
    exact ⟨rfl, below_drewN hb _⟩

theorem walk (a0 : Int) (a1 : Int) (w : World) (w0 : (Lit.int .u8 a0).wf = true) (w1 : (Lit.int .u8 a1).wf = true) :
    Calls Try.prog 6 #[.int .u8 a0, .int .u8 a1] w fun e w' => e = .returned (.bool true) ∧ Below w.heap.size w w' := by
  obtain ⟨p2, q2⟩ := nat_of rfl w0
  obtain ⟨p3, q3⟩ := nat_of rfl w1
  obtain ⟨x, rfl⟩ := Int.eq_ofNat_of_zero_le p2
  obtain ⟨y, rfl⟩ := Int.eq_ofNat_of_zero_le p3
  exact done x y q2 q3 w
end Go.Proofs.Ytdgbgdkfoeoppaa.crcTable
