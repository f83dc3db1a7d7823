/- The walk of CrcAdds. -/
import Derived.Test.YtdgbgdkfoeoppaaCrcWalk
namespace Go.Proofs.Ytdgbgdkfoeoppaa.crcAdds
open Go Go.RowKit Go.Proofs.Ytdgbgdkfoeoppaa.Mem Go.Proofs.Ytdgbgdkfoeoppaa.CrcW
set_option linter.unusedVariables false

theorem Bytes_append {a b : List Nat} (ha : Crc.Bytes a) (hb : Crc.Bytes b) : Crc.Bytes (a ++ b) := fun x hx => by
  rcases List.mem_append.1 hx with h | h
  · exact ha x h
  · exact hb x h
theorem Bytes_one {x : Nat} (h : x < 256) : Crc.Bytes [x] := fun y hy => by simp at hy; omega
theorem nums_cat (l0 l1 : List Nat) (x : Nat) : nums .u8 l0 ++ [Value.int .u8 (x : Int)] ++ nums .u8 l1 = nums .u8 (l0 ++ [x] ++ l1) := by simp [nums]

theorem done (a0 : Option Addr) (len0 cap0 : Nat) (l0 : List Nat) (a1 : Option Addr) (len1 cap1 : Nat) (l1 : List Nat) (x y : Nat) (w : World)
    (h0 : Nums .u8 w a0 len0 cap0 l0) (b0 : Crc.Bytes l0) (h1 : Nums .u8 w a1 len1 cap1 l1) (b1 : Crc.Bytes l1) (hx : x < 256) (hy : y < 256) (n0 : len0 ≤ 100) (n1 : len1 ≤ 100) :
    Calls Try.prog 4 #[.slice a0 len0 cap0, .slice a1 len1 cap1, .int .u8 x, .int .u8 y] w fun e w' => e = .returned (.bool true) ∧ Below w.heap.size w w' := by
  have HL0 : Hid (l0.length = len0) := h0.len
  have HL1 : Hid (l1.length = len1) := h1.len
  have HP := Bytes_append (Bytes_append b0 (Bytes_one hx)) b1
  have HQ := Bytes_append (Bytes_append b0 (Bytes_one hy)) b1
  go_enter Try.func4, Try.ntmps4
  go_wp2_with fail
  refine (first_w _).mono ?_
  rintro e w1 ⟨rfl, hb1⟩
  have k0 := h0.below hb1
  have k1 := h1.below hb1
  clear h0 h1
  have z1 := hb1.size
  go_wp2_with fail
  refine (bytes_w a0 len0 cap0 l0 w1 k0 (by omega)).mono ?_
  rintro e w2 ⟨v2, rfl, own2, hb2⟩
  have z2 := hb2.size
  go_wp2_with (at_builtin; go_must (first
        | (refine wpList_push elU8 rfl (.tmp 29) (.tmp 31) rfl w1.heap.size v2 len0 _ rfl (own2.alloc _) w2.heap.size (.int .u8 (x : Int)) rfl (by simp) rfl (by unfold maxLen; omega) (by omega) (by simp; omega) ?_; intro v3 w3 own3 hb3 _; have hb3 := (hb2.alloc z2 _).trans hb3; have z3 := hb3.size)
        | (refine wpList_app elU8 rfl (.tmp 32) (.tmp 33) rfl w1.heap.size v3 (len0 + 1) _ rfl own3 a1 len1 cap1 (nums .u8 l1) rfl (k1.below hb3) (nums_oneCell _ _) (by unfold maxLen; omega) (by omega) z3 ?_; intro v4 w4 own4 hb4 _)))
  rw [nums_cat] at own4
  have hb4 := hb3.trans hb4
  obtain ⟨pa, pc, rfl, hp⟩ := ownsRow_slice own4
  clear own2 own4 own3 z2 z3 hb3 hb2
  have z4 := hb4.size
  refine (bytes_w a0 len0 cap0 l0 w4 (k0.below hb4) (by omega)).mono ?_
  rintro e w5 ⟨v5, rfl, own5, hb5⟩
  have z5 := hb5.size
  go_wp2_with (at_builtin; go_must (first
        | (refine wpList_push elU8 rfl (.tmp 36) (.tmp 38) rfl w4.heap.size v5 len0 _ rfl (own5.alloc _) w5.heap.size (.int .u8 (y : Int)) rfl (by simp) rfl (by unfold maxLen; omega) (by omega) (by simp; omega) ?_; intro v6 w6 own6 hb6 _; have hb6 := (hb5.alloc z5 _).trans hb6; have z6 := hb6.size)
        | (refine wpList_app elU8 rfl (.tmp 39) (.tmp 40) rfl w4.heap.size v6 (len0 + 1) _ rfl own6 a1 len1 cap1 (nums .u8 l1) rfl (k1.below (hb4.trans (hb6.mono z4))) (nums_oneCell _ _) (by unfold maxLen; omega) (by omega) z6 ?_; intro v7 w7 own7 hb7 _)))
  rw [nums_cat] at own7
  obtain ⟨qa, qc, rfl, hq⟩ := ownsRow_slice own7
  have hb7 := hb6.trans hb7
  have hb0 := hb1.trans ((hb4.trans (hb7.mono z4)).mono z1)
  have hp := hp.below hb7
  refine (sum_w none 0 0 [] w7 (Nums.nil _ _) (fun _ h => by simp at h)).mono ?_
  rintro e w' ⟨rfl, rfl⟩
  have e0 : Crc.sum [] = 0 := Crc.sum_nil
  go_wp2_with fail
  refine (sum_w _ _ _ _ _ hp HP).mono ?_
  rintro e w' ⟨rfl, rfl⟩
  go_wp2_with fail
  refine (sum_w _ _ _ _ _ hq HQ).mono ?_
  rintro e w' ⟨rfl, rfl⟩
  have HS : Hid _ := Crc.sum_one l0 l1 x y b0 b1 hx hy
  simp only [List.append_assoc, List.cons_append, List.nil_append]
  generalize Crc.sum (l0 ++ x :: l1) = sp at HS ⊢
  generalize Crc.sum (l0 ++ y :: l1) = sq at HS ⊢
  go_wp2_with fail
  go_ret
  exact ⟨ret_bool (beq_cast HS.out), hb0⟩

/-- where the bytes are too many -/
theorem long (a0 : Option Addr) (len0 cap0 : Nat) (a1 : Option Addr) (len1 cap1 : Nat) (x y : Nat) (w : World) (c0 : len0 ≤ 9223372036854775807) (c1 : len1 ≤ 9223372036854775807) (h : 100 < len0 ∨ 100 < len1) :
    Calls Try.prog 4 #[.slice a0 len0 cap0, .slice a1 len1 cap1, .int .u8 x, .int .u8 y] w fun e w' => e = .returned (.bool true) ∧ Below w.heap.size w w' := by
  rcases Nat.lt_or_ge 100 len0 with h0 | h0
  · go_enter Try.func4, Try.ntmps4
    go_wp2_with fail
    refine (first_w _).mono ?_
    rintro e w1 ⟨rfl, hb1⟩
    go_wp2_with fail
    go_ret
    exact ⟨rfl, hb1⟩
  · have h1 : 100 < len1 := by omega
    clear h
    go_enter Try.func4, Try.ntmps4
    go_wp2_with fail
    refine (first_w _).mono ?_
    rintro e w1 ⟨rfl, hb1⟩
    go_wp2_with fail
    go_ret
    exact ⟨rfl, hb1⟩

theorem walk (a0 : Option Addr) (len0 cap0 : Nat) (z0 : List Int) (a1 : Option Addr) (len1 cap1 : Nat) (z1 : List Int) (a2 : Int) (a3 : Int) (w : World) (w0 : IsRow .u8 w a0 len0 cap0 z0) (w1 : IsRow .u8 w a1 len1 cap1 z1) (w2 : (Lit.int .u8 a2).wf = true) (w3 : (Lit.int .u8 a3).wf = true) :
    Calls Try.prog 4 #[.slice a0 len0 cap0, .slice a1 len1 cap1, .int .u8 a2, .int .u8 a3] w fun e w' => e = .returned (.bool true) ∧ Below w.heap.size w w' := by
  obtain ⟨l0, h0, b0⟩ := nums_of rfl w0
  obtain ⟨l1, h1, b1⟩ := nums_of rfl w1
  obtain ⟨p2, q2⟩ := nat_of rfl w2
  obtain ⟨p3, q3⟩ := nat_of rfl w3
  obtain ⟨x, rfl⟩ := Int.eq_ofNat_of_zero_le p2
  obtain ⟨y, rfl⟩ := Int.eq_ofNat_of_zero_le p3
  have c0 := h0.bound
  have c1 := h1.bound
  by_cases h : 100 < len0 ∨ 100 < len1
  · exact long a0 len0 cap0 a1 len1 cap1 x y w (by omega) (by omega) h
  · exact done a0 len0 cap0 l0 a1 len1 cap1 l1 x y w h0 b0 h1 b1 q2 q3 (by omega) (by omega)
end Go.Proofs.Ytdgbgdkfoeoppaa.crcAdds
