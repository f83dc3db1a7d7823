/- The walk of CrcSums. -/
import Derived.Test.YtdgbgdkfoeoppaaCrcLaw
import Derived.Test.YtdgbgdkfoeoppaaCrcPlainB
import Derived.Test.YtdgbgdkfoeoppaaWCrcTable
namespace Go.Proofs.Ytdgbgdkfoeoppaa.crcSums
open Go Go.RowKit Go.Proofs.Ytdgbgdkfoeoppaa.Mem Go.Proofs.Ytdgbgdkfoeoppaa.CrcW Go.Proofs.Ytdgbgdkfoeoppaa.CrcL Go.Proofs.Ytdgbgdkfoeoppaa.RefW
set_option linter.unusedVariables false
set_option maxRecDepth 100000

theorem rstep0 (k : Nat) (hk : k < 256) (w : World) :
    Calls Try.prog 23 #[.int .u32 0, .int .u8 k] w fun e w' => e = .returned (.int .u32 (Crc.step k)) ∧ w' = w := by
  have h := rstep_w 0 k (by omega) hk w
  rw [Nat.zero_xor] at h
  exact h.mono fun e w' ⟨h1, h2⟩ => ⟨h1, h2.symm⟩

set_option maxHeartbeats 1600000 in
theorem done (a0 : Option Addr) (n cap0 : Nat) (l : List Nat) (at_ : Int) (t : Nat) (w : World)
    (h0 : Nums .u8 w a0 n cap0 l) (b0 : Crc.Bytes l) (hlo : -9223372036854775808 ≤ at_) (hhi : at_ ≤ 9223372036854775807) (ht : t < 4294967296) (n0 : n ≤ 300) :
    Calls Try.prog 9 #[.slice a0 n cap0, .int .i64 at_, .int .u32 t] w fun e w' => e = .returned (.bool true) ∧ Below w.heap.size w w' := by
  go_enter Try.func9, Try.ntmps9
  go_wp2_with fail
  refine (first_w _).mono ?_
  rintro e w1 ⟨rfl, hb1⟩
  have k1 := h0.below hb1
  clear h0
  have z1 := hb1.size
  go_wp2_with fail
  refine (table_w _).mono ?_
  rintro e w2 ⟨g, rfl, own2, hb2⟩
  have z2 := hb2.size
  go_wp2_with fail
  go_loopw [9] (fun i wr => ∃ k : Nat, k ≤ 256 ∧ i = .int .i64 k ∧ Below w2.heap.size w2 wr) (fun i _ => 256 - (intOf i).toNat)
  case atStart => exact ⟨0, by omega, rfl, Below.refl _ _⟩
  case round =>
    obtain ⟨k, hk, rfl, hb3⟩ := hrel
    have own3 := ownsRow_below own2 hb3
    by_cases hlt : k < 256
    · have hc := crcTable.cellOf own3 hlt
      clear own2 own3
      go_wp2_with fail
      go_quiet ((go_at_call 23; refine Calls.quiet_of_same (rstep0 k hlt _) ))
      go_wp2_with fail
      go_roundw
      case rel => exact ⟨k + 1, by omega, by go_num, below_drewN hb3 _⟩
      case measure => simp [intOf]; omega
    · obtain rfl : k = 256 := by omega
      clear hlt hk
      have z3 := hb3.size
      have hb13 := hb2.trans (hb3.mono z2)
      have k3 := k1.below hb13
      clear k1 own2
      go_wp2_with fail
      refine (turned_w a0 n cap0 l at_ t wr k3 b0 (by omega) (by omega) (by omega) ht).mono ?_
      rintro e w4 ⟨v4, rfl, own4, hb4⟩
      obtain ⟨xa, xc, rfl, hx⟩ := ownsRow_slice own4
      clear own4
      have z4 := hb4.size
      have hx : Nums .u8 w4 xa n xc (Crc.turned l at_ t) := hx
      have k4 := k3.below hb4
      have t4 := ownsRow_below own3 hb4
      clear k3 own3
      go_wp2_with fail
      refine (sum_w _ _ _ _ _ k4 b0).mono ?_
      rintro e w' ⟨rfl, rfl⟩
      go_wp2_with fail
      refine (rsum_w _ _ _ _ _ k4 b0).mono ?_
      rintro e w' ⟨rfl, rfl⟩
      go_wp2_with fail
      refine (with_w _ _ _ _ _ _ _ _ k4 b0 t4).mono ?_
      rintro e w' ⟨rfl, rfl⟩
      go_wp2_with fail
      refine (rsum_w _ _ _ _ _ k4 b0).mono ?_
      rintro e w' ⟨rfl, rfl⟩
      go_wp2_with fail
      refine (rturned_w a0 n cap0 l at_ t _ k4 b0 (by omega) (by omega) (by omega) ht).mono ?_
      rintro e w5 ⟨v5, rfl, own5, hb5⟩
      obtain ⟨ya, yc, rfl, hy⟩ := ownsRow_slice own5
      clear own5
      have z5 := hb5.size
      have hy : Nums .u8 w5 ya n yc (Crc.turned l at_ t) := hy
      have x5 := hx.below hb5
      generalize Crc.sum l = sl at *
      generalize Crc.turned l at_ t = x at *
      clear hx k4
      go_wp2_with fail
      refine (same_w _ _ _ _ _ _ _ _ _ x5 hy).mono ?_
      rintro e w6 ⟨rfl, hb6⟩
      go_wp2_with fail
      refine (with_none _ _ _ _ _ _ _ (by omega) (by omega)).mono ?_
      rintro e w' ⟨rfl, rfl⟩
      go_wp2_with fail
      refine (with_none _ _ _ _ 0 _ _ (by omega) (by omega)).mono ?_
      rintro e w' ⟨rfl, rfl⟩
      go_wp2_with fail
      go_ret
      exact ⟨rfl, hb1.trans ((hb13.trans ((hb4.trans ((hb5.trans (hb6.mono z5)).mono z4)).mono (by omega))).mono z1)⟩

theorem long (a0 : Option Addr) (n cap0 : Nat) (at_ : Int) (t : Nat) (w : World) (hn : n ≤ 9223372036854775807) (h : 300 < n) :
    Calls Try.prog 9 #[.slice a0 n cap0, .int .i64 at_, .int .u32 t] w fun e w' => e = .returned (.bool true) ∧ Below w.heap.size w w' := by
  go_enter Try.func9, Try.ntmps9
  go_wp2_with fail
  refine (first_w _).mono ?_
  rintro e w1 ⟨rfl, hb1⟩
  go_wp2_with fail
  go_ret
  exact ⟨rfl, hb1⟩

theorem walk (a0 : Option Addr) (len0 cap0 : Nat) (z0 : List Int) (a1 : Int) (a2 : Int) (w : World) (w0 : IsRow .u8 w a0 len0 cap0 z0) (w1 : (Lit.int .i64 a1).wf = true) (w2 : (Lit.int .u32 a2).wf = true) :
    Calls Try.prog 9 #[.slice a0 len0 cap0, .int .i64 a1, .int .u32 a2] w fun e w' => e = .returned (.bool true) ∧ Below w.heap.size w w' := by
  obtain ⟨l0, h0, b0⟩ := nums_of rfl w0
  obtain ⟨p2, q2⟩ := nat_of rfl w2
  obtain ⟨t, rfl⟩ := Int.eq_ofNat_of_zero_le p2
  have hi := int_of w1
  have c0 := h0.bound
  by_cases h : 300 < len0
  · exact long a0 len0 cap0 a1 t w (by omega) h
  · exact done a0 len0 cap0 l0 a1 t w h0 b0 hi.1 hi.2 q2 (by omega)
end Go.Proofs.Ytdgbgdkfoeoppaa.crcSums
