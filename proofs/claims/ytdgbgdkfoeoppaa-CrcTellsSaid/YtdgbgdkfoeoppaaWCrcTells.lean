/- The walk of CrcTells. -/
import Derived.Test.YtdgbgdkfoeoppaaCrcLaw
import Derived.Test.YtdgbgdkfoeoppaaCrcPlainB
import Derived.Test.YtdgbgdkfoeoppaaNumWalk
namespace Go.Proofs.Ytdgbgdkfoeoppaa.crcTells
open Go Go.RowKit Go.Proofs.Ytdgbgdkfoeoppaa.Mem Go.Proofs.Ytdgbgdkfoeoppaa.CrcW Go.Proofs.Ytdgbgdkfoeoppaa.CrcL Go.Proofs.Ytdgbgdkfoeoppaa.RefW
set_option linter.unusedVariables false
set_option maxRecDepth 100000

set_option maxHeartbeats 1600000 in
theorem done (a0 : Option Addr) (n cap0 : Nat) (l : List Nat) (at_ : Int) (t : Nat) (w : World)
    (h0 : Nums .u8 w a0 n cap0 l) (b0 : Crc.Bytes l) (hlo : -9223372036854775808 ≤ at_) (hhi : at_ ≤ 9223372036854775807) (ht : t < 4294967296) (n0 : n ≤ 300) (n1 : 1 ≤ n) :
    Calls Try.prog 7 #[.slice a0 n cap0, .int .i64 at_, .int .u32 t] w fun e w' => e = .returned (.bool true) ∧ Below w.heap.size w w' := by
  have hne : ((n : Int) == 0) = false := by simp; omega
  go_enter Try.func7, Try.ntmps7
  go_wp2_with fail
  refine (first_w _).mono ?_
  rintro e w1 ⟨rfl, hb1⟩
  have k0 := h0.below hb1
  clear h0
  have z1 := hb1.size
  go_wp2_with fail
  refine (NumW.number_w at_ n _ (by omega) (by omega) hlo hhi).mono ?_
  rintro e w' ⟨rfl, rfl⟩
  have p0 := Int.emod_nonneg at_ (b := (n : Int)) (by omega)
  have p1 := Int.emod_lt_of_pos at_ (b := (n : Int)) (by omega)
  generalize at_ % (n : Int) = p at p0 p1 ⊢
  clear hlo hhi
  go_wp2_with fail
  refine (turned_w a0 n cap0 l p t w1 k0 b0 (by omega) (by omega) (by omega) ht).mono ?_
  rintro e w2 ⟨v2, rfl, own2, hb2⟩
  obtain ⟨xa, xc, rfl, hx⟩ := ownsRow_slice own2
  clear own2
  have z2 := hb2.size
  have hx : Nums .u8 w2 xa n xc (Crc.turned l p t) := hx
  have bx := Crc.turned_bytes b0 p t
  go_wp2_with fail
  refine (turned_w xa n xc _ p t w2 hx bx (by omega) (by omega) (by omega) ht).mono ?_
  rintro e w3 ⟨v3, rfl, own3, hb3⟩
  obtain ⟨ya, yc, rfl, hy⟩ := ownsRow_slice own3
  clear own3
  have z3 := hb3.size
  rw [Crc.turned_twice] at hy
  have hy : Nums .u8 w3 ya n yc l := hy
  have HS := hid (Crc.turned_sum b0 p t)
  generalize Crc.turned l p t = x at *
  have hx3 := hx.below hb3
  have k3 := k0.below (hb2.trans (hb3.mono z2))
  have hb := hb1.trans ((hb2.trans (hb3.mono z2)).mono z1)
  clear hx k0 hb1 hb2
  go_wp2_with fail
  refine (same_w a0 n cap0 l xa n xc x w3 k3 hx3).mono ?_
  rintro e w4 ⟨rfl, hb4⟩
  have z4 := hb4.size
  have hx4 := hx3.below hb4
  have k4 := k3.below hb4
  have y4 := hy.below hb4
  go_wp2_with fail
  refine (sum_w _ _ _ _ _ hx4 bx).mono ?_
  rintro e w' ⟨rfl, rfl⟩
  go_wp2_with fail
  refine (sum_w _ _ _ _ _ k4 b0).mono ?_
  rintro e w' ⟨rfl, rfl⟩
  generalize Crc.sum x = sx at HS ⊢
  generalize Crc.sum l = sl at HS ⊢
  by_cases hs : l = x
  · have e1 : sx = sl := HS.out.2 hs
    subst hs
    subst e1
    go_wp2_with fail
    refine (same_w _ _ _ _ _ _ _ _ _ y4 k4).mono ?_
    rintro e w5 ⟨rfl, hb5⟩
    go_wp2_with fail
    go_ret
    exact ⟨ret_bool (by simp), hb.trans ((hb4.trans (hb5.mono z4)).mono (by omega))⟩
  · have e1 : ((sx : Int) == (sl : Int)) = false := by
      have : ¬ sx = sl := fun h => hs (HS.out.1 h)
      simp; omega
    have e2 : decide (l = x) = false := by simpa using hs
    rw [e2]
    clear hs e2
    go_wp2_with fail
    refine (same_w _ _ _ _ _ _ _ _ _ y4 k4).mono ?_
    rintro e w5 ⟨rfl, hb5⟩
    go_wp2_with fail
    go_ret
    exact ⟨ret_bool (by simp), hb.trans ((hb4.trans (hb5.mono z4)).mono (by omega))⟩

theorem long (a0 : Option Addr) (n cap0 : Nat) (at_ : Int) (t : Nat) (w : World) (hn : n ≤ 9223372036854775807) (h : 300 < n ∨ n = 0) :
    Calls Try.prog 7 #[.slice a0 n cap0, .int .i64 at_, .int .u32 t] w fun e w' => e = .returned (.bool true) ∧ Below w.heap.size w w' := by
  rcases h with h | rfl
  · have hne : ((n : Int) == 0) = false := by simp; omega
    go_enter Try.func7, Try.ntmps7
    go_wp2_with fail
    refine (first_w _).mono ?_
    rintro e w1 ⟨rfl, hb1⟩
    go_wp2_with fail
    go_ret
    exact ⟨rfl, hb1⟩
  · go_enter Try.func7, Try.ntmps7
    go_wp2_with fail
    refine (first_w _).mono ?_
    rintro e w1 ⟨rfl, hb1⟩
    go_wp2_with fail
    go_ret
    exact ⟨rfl, hb1⟩

theorem walk (a0 : Option Addr) (len0 cap0 : Nat) (z0 : List Int) (a1 : Int) (a2 : Int) (w : World) (w0 : IsRow .u8 w a0 len0 cap0 z0) (w1 : (Lit.int .i64 a1).wf = true) (w2 : (Lit.int .u32 a2).wf = true) :
    Calls Try.prog 7 #[.slice a0 len0 cap0, .int .i64 a1, .int .u32 a2] w fun e w' => e = .returned (.bool true) ∧ Below w.heap.size w w' := by
  obtain ⟨l0, h0, b0⟩ := nums_of rfl w0
  obtain ⟨p2, q2⟩ := nat_of rfl w2
  obtain ⟨t, rfl⟩ := Int.eq_ofNat_of_zero_le p2
  have hi := int_of w1
  have c0 := h0.bound
  by_cases h : 300 < len0 ∨ len0 = 0
  · exact long a0 len0 cap0 a1 t w (by omega) h
  · exact done a0 len0 cap0 l0 a1 t w h0 b0 hi.1 hi.2 q2 (by omega) (by omega)
end Go.Proofs.Ytdgbgdkfoeoppaa.crcTells
