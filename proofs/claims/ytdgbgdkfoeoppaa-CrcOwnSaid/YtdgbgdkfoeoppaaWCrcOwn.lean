/- The walk of CrcOwn. -/
import Derived.Test.YtdgbgdkfoeoppaaCrcLaw
import Derived.Test.YtdgbgdkfoeoppaaCrcPlainB
namespace Go.Proofs.Ytdgbgdkfoeoppaa.crcOwn
open Go Go.RowKit Go.Proofs.Ytdgbgdkfoeoppaa.Mem Go.Proofs.Ytdgbgdkfoeoppaa.CrcW Go.Proofs.Ytdgbgdkfoeoppaa.CrcL Go.Proofs.Ytdgbgdkfoeoppaa.RefW
set_option linter.unusedVariables false
set_option maxRecDepth 100000

set_option maxHeartbeats 3200000 in
theorem done (a0 : Option Addr) (n cap0 : Nat) (l : List Nat) (at_ : Int) (t : Nat) (w : World)
    (h0 : Nums .u8 w a0 n cap0 l) (b0 : Crc.Bytes l) (hlo : -9223372036854775808 ≤ at_) (hhi : at_ ≤ 9223372036854775807) (ht : t < 4294967296) (n0 : n ≤ 100) :
    Calls Try.prog 10 #[.slice a0 n cap0, .int .i64 at_, .int .u32 t] w fun e w' => e = .returned (.bool true) ∧ Below w.heap.size w w' := by
  have kc := fun (w : World) (C : Array Value) (n c : Nat) => Lib.run_convert_bytes_const (P := Try.prog) w 29 5 C n c Try.underlying29 Try.underlying5
  go_enter Try.func10, Try.ntmps10
  go_wp2_with fail
  refine (first_w _).mono ?_
  rintro e w1 ⟨rfl, hb1⟩
  have k1 := h0.below hb1
  clear h0
  have z1 := hb1.size
  go_wp2_with fail
  refine (bytes_w a0 n cap0 l w1 k1 (by omega)).mono ?_
  rintro e w2 ⟨v2, rfl, own2, hb2⟩
  obtain ⟨wa, wc, rfl, hw⟩ := ownsRow_slice own2
  clear own2
  have hw : Nums .u8 w2 wa n wc l := hw
  have k2 := k1.below hb2
  have z2 := hb2.size
  clear k1
  go_wp2_with fail
  refine (turned_w a0 n cap0 l at_ t w2 k2 b0 (by omega) (by omega) (by omega) ht).mono ?_
  rintro e w3 ⟨v3, rfl, own3, hb3⟩
  obtain ⟨xa, xc, rfl, hx⟩ := ownsRow_slice own3
  have hxc : n ≤ xc ∧ xc ≤ 9223372036854775807 := by
    have := hx.2.2.1; unfold maxLen at this; exact ⟨hx.2.1, by omega⟩
  clear hx
  obtain ⟨hxc1, hxc2⟩ := hxc
  have bx := Crc.turned_bytes b0 at_ t
  have lx := hid (own3.1)
  go_wp2_with fail
  go_loopw [10] (fun i wr => ∃ (k : Nat) (m : List Nat), k ≤ n ∧ i = .int .i64 k ∧ Crc.Bytes m ∧ wr.ownsRow w2.heap.size 5 1 (.slice xa n xc) n (nums .u8 m) ∧ Below w2.heap.size w2 wr) (fun i _ => n - (intOf i).toNat)
  case atStart => exact ⟨0, _, by omega, rfl, bx, own3, hb3⟩
  case round =>
    obtain ⟨k, m, hk, rfl, bm, hown, hb⟩ := hrel
    by_cases hlt : k < n
    · obtain ⟨g, rfl⟩ := own_some hown (by omega)
      have hl : m.length = n := OwnN.len hown
      have hkl : k < m.length := by omega
      have hc := OwnN.cell hown hkl
      have hf := World.ownsRow.frozenAt hown k
      have hcb : m[k] < 256 := bm _ (List.getElem_mem hkl)
      generalize m[k] = x at hc hcb
      have HO := hid hown
      clear hown hl own3 hb3
      go_wp2
      go_roundw
      case rel =>
        rw [mod256]
        refine ⟨k + 1, m.set k ((x + 1) % 256), by omega, by go_num, ?_, OwnN.set HO.out k _, hb.setCell (by simpa using (World.ownsRow.lt HO.out g rfl).1) _⟩
        intro y hy
        rcases List.mem_or_eq_of_mem_set hy with h1 | h1
        · exact bm y h1
        · omega
      case measure => simp [intOf]; omega
    · obtain rfl : k = n := by omega
      obtain ⟨wx, hwx⟩ : ∃ wx : World, wx = wr := ⟨_, rfl⟩
      subst hwx
      clear hlt hk hown own3 hb3 bx lx bm
      have z3 := hb.size
      have k3 := k2.below hb
      have w3 := hw.below hb
      have hbw := hb1.trans ((hb2.trans (hb.mono z2)).mono z1)
      clear k2 hw
      go_wp2_with fail
      refine (table_w _).mono ?_
      rintro e w4 ⟨g, rfl, own4, hb4⟩
      have z4 := hb4.size
      go_wp2_with fail
      go_loopw [12] (fun i ws => ∃ (j : Nat) (m : List Nat), j ≤ 256 ∧ i = .int .i64 j ∧ OwnN ws wx.heap.size 31 .u32 g 256 256 m ∧ Below wx.heap.size wx ws) (fun i _ => 256 - (intOf i).toNat)
      case atStart => exact ⟨0, _, by omega, rfl, own4, hb4⟩
      case round =>
        obtain ⟨j, m', hj, rfl, hown, hb5⟩ := hrel
        by_cases hlt : j < 256
        · have hl := OwnN.len hown
          obtain ⟨c0, hc⟩ : ∃ c0, wr.cell? ⟨g, j, none⟩ = some c0 := ⟨_, OwnN.cell hown (j := j) (by omega)⟩
          have hf := World.ownsRow.frozenAt hown j
          have HO := hid hown
          clear hown own4 hb4 hl
          go_wp2
          go_roundw
          case rel => exact ⟨j + 1, _, by omega, by go_num, OwnN.set HO.out j 7, hb5.setCell (OwnN.lt HO.out).1 _⟩
          case measure => simp [intOf]; omega
        · obtain rfl : j = 256 := by omega
          clear hown own4 hb4 hlt hj
          have z5 := hb5.size
          have k5 := k3.below hb5
          have w5 := w3.below hb5
          have hb0 := hbw.trans (hb5.mono (by omega))
          clear k3 w3 hbw
          go_wp2_with fail
          refine (same_w _ _ _ _ _ _ _ _ _ k5 w5).mono ?_
          rintro e w6 ⟨rfl, hb6⟩
          have z6 := hb6.size
          have k6 := k5.below hb6
          have w6' := w5.below hb6
          go_wp2_with fail
          refine (sum_w _ _ _ [49, 50, 51, 52, 53, 54, 55, 56, 57] _ (Row.fresh _ _ _ _ 9 rfl (by decide)) (by unfold Crc.Bytes; decide)).mono ?_
          rintro e w' ⟨rfl, rfl⟩
          have hs : Crc.sum [49, 50, 51, 52, 53, 54, 55, 56, 57] = 3808858755 := by decide +kernel
          rw [hs]
          clear hs
          go_wp2_with fail
          refine (table_w _).mono ?_
          rintro e w8 ⟨g8, rfl, own8, hb8⟩
          have hb78 : Below w6.heap.size w6 w8 := ((Below.refl _ _).alloc (Nat.le_refl _) _).trans (hb8.mono (by simp))
          have k8 := k6.below hb78
          have w8' := w6'.below hb78
          have own8 := ownsRow_base own8 (Nat.zero_le _)
          go_wp2_with fail
          refine (with_w _ _ _ _ _ _ _ _ w8' b0 own8).mono ?_
          rintro e w' ⟨rfl, rfl⟩
          go_wp2_with fail
          refine (sum_w _ _ _ _ _ k8 b0).mono ?_
          rintro e w' ⟨rfl, rfl⟩
          go_wp2_with fail
          go_ret
          exact ⟨rfl, hb0.trans ((hb6.trans (hb78.mono z6)).mono (by omega))⟩

theorem long (a0 : Option Addr) (n cap0 : Nat) (at_ : Int) (t : Nat) (w : World) (hn : n ≤ 9223372036854775807) (h : 100 < n) :
    Calls Try.prog 10 #[.slice a0 n cap0, .int .i64 at_, .int .u32 t] w fun e w' => e = .returned (.bool true) ∧ Below w.heap.size w w' := by
  go_enter Try.func10, Try.ntmps10
  go_wp2_with fail
  refine (first_w _).mono ?_
  rintro e w1 ⟨rfl, hb1⟩
  go_wp2_with fail
  go_ret
  exact ⟨rfl, hb1⟩

theorem walk (a0 : Option Addr) (len0 cap0 : Nat) (z0 : List Int) (a1 : Int) (a2 : Int) (w : World) (w0 : IsRow .u8 w a0 len0 cap0 z0) (w1 : (Lit.int .i64 a1).wf = true) (w2 : (Lit.int .u32 a2).wf = true) :
    Calls Try.prog 10 #[.slice a0 len0 cap0, .int .i64 a1, .int .u32 a2] w fun e w' => e = .returned (.bool true) ∧ Below w.heap.size w w' := by
  obtain ⟨l0, h0, b0⟩ := nums_of rfl w0
  obtain ⟨p2, q2⟩ := nat_of rfl w2
  obtain ⟨t, rfl⟩ := Int.eq_ofNat_of_zero_le p2
  have hi := int_of w1
  have c0 := h0.bound
  by_cases h : 100 < len0
  · exact long a0 len0 cap0 a1 t w (by omega) h
  · exact done a0 len0 cap0 l0 a1 t w h0 b0 hi.1 hi.2 q2 (by omega)
end Go.Proofs.Ytdgbgdkfoeoppaa.crcOwn
