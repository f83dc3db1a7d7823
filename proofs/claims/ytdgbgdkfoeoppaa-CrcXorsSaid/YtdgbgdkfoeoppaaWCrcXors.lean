/- The walk of CrcXors. -/
import Derived.Test.YtdgbgdkfoeoppaaCrcLaw
import Derived.Test.YtdgbgdkfoeoppaaCrcPlainB
namespace Go.Proofs.Ytdgbgdkfoeoppaa.crcXors
open Go Go.RowKit Go.Proofs.Ytdgbgdkfoeoppaa.Mem Go.Proofs.Ytdgbgdkfoeoppaa.CrcW Go.Proofs.Ytdgbgdkfoeoppaa.CrcL Go.Proofs.Ytdgbgdkfoeoppaa.RefW
set_option linter.unusedVariables false
set_option maxRecDepth 100000

theorem zeros (n : Nat) : Crc.Bytes (List.replicate n 0) := fun x hx => by
  have := List.eq_of_mem_replicate hx; omega

/-- a block of nothing -/
theorem full_nil (w : World) :
    Calls Try.prog 22 #[.slice none 0 0] w fun e w' => ∃ g c, e = .returned (.slice (some ⟨g, 0, none⟩) 256 c) ∧ Below w.heap.size w w' := by
  go_enter Try.func22, Try.ntmps22
  go_wp2_with (at_make; go_must (refine wpList_mkn elU8 rfl _ _ rfl w.heap.size .i64 .i64 _ _ 256 rfl rfl rfl rfl (by omega) (by unfold maxLen; omega) (Nat.le_refl _) ?_); intro w0 hown0 hgrow0)
  have hb0 := below_growns hgrow0 (Nat.le_refl w.heap.size)
  refine wp_loop_once ?_
  go_wp2
  go_ret
  exact ⟨_, _, rfl, hb0⟩

set_option maxHeartbeats 1600000 in
theorem done (a0 : Option Addr) (n cap0 : Nat) (l : List Nat) (at_ : Int) (t : Nat) (w : World)
    (h0 : Nums .u8 w a0 n cap0 l) (b0 : Crc.Bytes l) (hlo : -9223372036854775808 ≤ at_) (hhi : at_ ≤ 9223372036854775807) (ht : t < 4294967296) (n0 : n ≤ 100) :
    Calls Try.prog 8 #[.slice a0 n cap0, .int .i64 at_, .int .u32 t] w fun e w' => e = .returned (.bool true) ∧ Below w.heap.size w w' := by
  have HX := hid (Crc.sum_turned l at_ t)
  rw [h0.len] at HX
  go_enter Try.func8, Try.ntmps8
  go_wp2_with fail
  refine (first_w _).mono ?_
  rintro e w1 ⟨rfl, hb1⟩
  have k0 := h0.below hb1
  clear h0
  have z1 := hb1.size
  go_wp2_with fail
  refine (turned_w a0 n cap0 l at_ t w1 k0 b0 (by omega) (by omega) (by omega) ht).mono ?_
  rintro e w2 ⟨v2, rfl, own2, hb2⟩
  obtain ⟨xa, xc, rfl, hx⟩ := ownsRow_slice own2
  clear own2
  have z2 := hb2.size
  have hx : Nums .u8 w2 xa n xc (Crc.turned l at_ t) := hx
  have bx := Crc.turned_bytes b0 at_ t
  go_wp2_with (at_make; go_must (refine wpList_mkn elU8 rfl _ _ rfl w2.heap.size .i64 .i64 _ _ n rfl rfl rfl rfl (by omega) (by unfold maxLen; omega) (Nat.le_refl _) ?_); intro w3 own3 grow3)
  have hb3 := below_growns grow3 (Nat.le_refl _)
  rw [made_nums] at own3
  have hm := OwnN.nums own3
  have bm := zeros n
  have z3 := hb3.size
  refine (turned_w _ n n _ at_ t w3 hm bm (by omega) (by omega) (by omega) ht).mono ?_
  rintro e w4 ⟨v4, rfl, own4, hb4⟩
  obtain ⟨ya, yc, rfl, hy⟩ := ownsRow_slice own4
  clear own4 own3 hm grow3
  have hy : Nums .u8 w4 ya n yc (Crc.turned (List.replicate n 0) at_ t) := hy
  have by_ := Crc.turned_bytes bm at_ t
  have z4 := hb4.size
  go_wp2_with (at_make; go_must (refine wpList_mkn elU8 rfl _ _ rfl w4.heap.size .i64 .i64 _ _ n rfl rfl rfl rfl (by omega) (by unfold maxLen; omega) (Nat.le_refl _) ?_); intro w5 own5 grow5)
  have hb5 := below_growns grow5 (Nat.le_refl _)
  rw [made_nums] at own5
  have hz := OwnN.nums own5
  have z5 := hb5.size
  have c1 := hb4.trans (hb5.mono z4)
  have c2 := hb3.trans (c1.mono z3)
  have c3 := hb2.trans (c2.mono z2)
  have hb := hb1.trans (c3.mono z1)
  have k5 := k0.below c3
  have x5 := hx.below c2
  have y5 := hy.below hb5
  clear k0 hx hy own5 grow5
  refine (sum_w _ _ _ _ _ k5 b0).mono ?_
  rintro e w' ⟨rfl, rfl⟩
  go_wp2_with fail
  refine (sum_w _ _ _ _ _ x5 bx).mono ?_
  rintro e w' ⟨rfl, rfl⟩
  have q1 : Crc.sum l < 4294967296 := Crc.sum_lt b0
  have q2 : Crc.sum (Crc.turned l at_ t) < 4294967296 := Crc.sum_lt bx
  have q3 : Crc.sum (Crc.turned (List.replicate n 0) at_ t) < 4294967296 := Crc.sum_lt by_
  have q4 : Crc.sum (List.replicate n 0) < 4294967296 := Crc.sum_lt bm
  have e12 := u32_xor_nat _ _ q1 q2
  have q12 := Crc.xor_lt q1 q2
  have e123 := u32_xor_nat _ _ q12 q3
  have q123 := Crc.xor_lt q12 q3
  have e1234 := u32_xor_nat _ _ q123 q4
  rw [HX.out] at e1234
  generalize Crc.turned l at_ t = x at *
  generalize Crc.turned (List.replicate n 0) at_ t = y at *
  generalize List.replicate n 0 = z at *
  go_wp2_with fail
  refine (sum_w _ _ _ _ _ y5 by_).mono ?_
  rintro e w' ⟨rfl, rfl⟩
  go_wp2_with fail
  refine (sum_w _ _ _ _ _ hz bm).mono ?_
  rintro e w' ⟨rfl, rfl⟩
  go_wp2_with fail
  refine (full_nil _).mono ?_
  rintro e w6 ⟨g, c, rfl, hb6⟩
  go_wp2_with fail
  go_ret
  exact ⟨rfl, hb.trans (hb6.mono (by omega))⟩

theorem long (a0 : Option Addr) (n cap0 : Nat) (at_ : Int) (t : Nat) (w : World) (hn : n ≤ 9223372036854775807) (h : 100 < n) :
    Calls Try.prog 8 #[.slice a0 n cap0, .int .i64 at_, .int .u32 t] w fun e w' => e = .returned (.bool true) ∧ Below w.heap.size w w' := by
  go_enter Try.func8, Try.ntmps8
  go_wp2_with fail
  refine (first_w _).mono ?_
  rintro e w1 ⟨rfl, hb1⟩
  go_wp2_with fail
  go_ret
  exact ⟨rfl, hb1⟩

theorem walk (a0 : Option Addr) (len0 cap0 : Nat) (z0 : List Int) (a1 : Int) (a2 : Int) (w : World) (w0 : IsRow .u8 w a0 len0 cap0 z0) (w1 : (Lit.int .i64 a1).wf = true) (w2 : (Lit.int .u32 a2).wf = true) :
    Calls Try.prog 8 #[.slice a0 len0 cap0, .int .i64 a1, .int .u32 a2] w fun e w' => e = .returned (.bool true) ∧ Below w.heap.size w w' := by
  obtain ⟨l0, h0, b0⟩ := nums_of rfl w0
  obtain ⟨p2, q2⟩ := nat_of rfl w2
  obtain ⟨t, rfl⟩ := Int.eq_ofNat_of_zero_le p2
  have hi := int_of w1
  have c0 := h0.bound
  by_cases h : 100 < len0
  · exact long a0 len0 cap0 a1 t w (by omega) h
  · exact done a0 len0 cap0 l0 a1 t w h0 b0 hi.1 hi.2 q2 (by omega)
end Go.Proofs.Ytdgbgdkfoeoppaa.crcXors
