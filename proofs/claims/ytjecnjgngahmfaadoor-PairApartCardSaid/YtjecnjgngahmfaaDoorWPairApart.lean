/- The walk of PairApart. -/
import Derived.Test.YtjecnjgngahmfaaDoorPairTwo
import Derived.Test.YtjecnjgngahmfaaDoorPairFirst
import Derived.Test.YtjecnjgngahmfaaDoorNumWalk
namespace Go.Proofs.YtjecnjgngahmfaaDoor.pairApart
open Go Go.RowKit Go.Maps Go.Proofs.YtjecnjgngahmfaaDoor.Mem Go.Proofs.YtjecnjgngahmfaaDoor.MapsW Go.Proofs.YtjecnjgngahmfaaDoor.SeeW Go.Proofs.YtjecnjgngahmfaaDoor.DevW Go.Proofs.YtjecnjgngahmfaaDoor.PairW
set_option linter.unusedVariables false
set_option maxRecDepth 100000

theorem over (bs : List Addr) (a0 a1 : Int) (a2 a3 : Option Addr) (len2 cap2 len3 cap3 : Nat) (w : World) (hB : Fv w bs) (hn : 256 < len2 ∨ 256 < len3) :
    Calls Tryd.prog 5 #[.int .i64 a0, .int .i64 a1, .slice a2 len2 cap2, .slice a3 len3 cap3] w fun e w' => e = .returned (.bool true) ∧ Below w.heap.size w w' := by
  by_cases h2 : 256 < len2
  · go_enter Tryd.func5, Tryd.ntmps5
    go_wp2_with fail
    refine (first_w bs _ hB).mono ?_
    rintro e w1 ⟨rfl, hb1⟩
    go_wp2_with fail
    go_ret
    exact ⟨rfl, hb1⟩
  · have h3 : 256 < len3 := by omega
    go_enter Tryd.func5, Tryd.ntmps5
    go_wp2_with fail
    refine (first_w bs _ hB).mono ?_
    rintro e w1 ⟨rfl, hb1⟩
    go_wp2_with fail
    go_ret
    exact ⟨rfl, hb1⟩

theorem keepc {w w' : World} {x : Nat} {o : Obj} (hb : Below w.heap.size w w') (h : w.heap[x]? = some o) : w'.heap[x]? = some o :=
  (hb.block x (Array.getElem?_eq_some_iff.1 h).1).trans h

set_option maxHeartbeats 12800000 in
theorem apart (bs : List Addr) (a0 a1 : Int) (a2 a3 : Option Addr) (len2 cap2 len3 cap3 : Nat) (la lb : List Nat) (w : World) (hB : Fv w bs) (hla : Nums .u8 w a2 len2 cap2 la) (hlb : Nums .u8 w a3 len3 cap3 lb) (hba : Crc.Bytes la) (hbb : Crc.Bytes lb) (hna : len2 ≤ 256) (hnb : len3 ≤ 256)
    (r0 : -9223372036854775808 ≤ a0 ∧ a0 ≤ 9223372036854775807) (r1 : -9223372036854775808 ≤ a1 ∧ a1 ≤ 9223372036854775807)
    (hd : a0 % 20 ≠ a1 % 20)
    :
    Calls Tryd.prog 5 #[.int .i64 a0, .int .i64 a1, .slice a2 len2 cap2, .slice a3 len3 cap3] w fun e w' => e = .returned (.bool true) ∧ Below w.heap.size w w' := by
  obtain ⟨A, hA⟩ : ∃ P, P = Crc.pad la := ⟨_, rfl⟩
  have hAb : Blk A := by rw [hA]; exact pad_blk hba (by rw [hla.len]; exact hna)
  have HA := hid hA
  clear hA
  obtain ⟨B, hB'⟩ : ∃ P, P = Crc.pad lb := ⟨_, rfl⟩
  have hBb : Blk B := by rw [hB']; exact pad_blk hbb (by rw [hlb.len]; exact hnb)
  have HB := hid hB'
  clear hB'
  have hh : GeoW.half 320 = 80 := by decide
  obtain ⟨n, hnn⟩ : ∃ n : Nat, a0 % 20 = n := ⟨(a0 % 20).toNat, by have := Int.emod_nonneg a0 (b := 20) (by omega); omega⟩
  have hn20 : n < 20 := by have := Int.emod_lt_of_pos a0 (b := 20) (by omega); omega
  obtain ⟨m, hmm⟩ : ∃ n : Nat, a1 % 20 = n := ⟨(a1 % 20).toNat, by have := Int.emod_nonneg a1 (b := 20) (by omega); omega⟩
  have hm20 : m < 20 := by have := Int.emod_lt_of_pos a1 (b := 20) (by omega); omega
  have hnm : n ≠ m := by omega
  obtain ⟨r0, r0'⟩ := r0
  obtain ⟨r1, r1'⟩ := r1
  go_enter Tryd.func5, Tryd.ntmps5
  go_wp2_with fail
  refine (first_w bs _ hB).mono ?_
  rintro e w0 ⟨rfl, hb0⟩
  have hB0 := hB.below hb0
  have ha0 := hla.below hb0
  have hbb0 := hlb.below hb0
  clear hla hlb hB
  go_wp2_with fail
  refine (NumW.number_w a0 20 _ (by decide) (by decide) r0 r0').mono ?_
  rintro e w' ⟨rfl, rfl⟩
  rw [hnn]
  go_wp2_with fail
  refine (NumW.number_w a1 20 _ (by decide) (by decide) r1 r1').mono ?_
  rintro e w' ⟨rfl, rfl⟩
  rw [hmm]
  go_wp2_with fail
  refine (ses_open 320 _ (by omega) (by omega)).mono ?_
  rintro e w1 ⟨p, rfl, s1⟩
  have ha1 := ha0.below s1.b
  have hbb1 := hbb0.below s1.b
  rw [hh] at s1
  go_wp2_with fail
  refine (block_w _ _ _ la _ ha1 hna).mono ?_
  rintro e w2 ⟨g2, gc2, rfl, hn2, hg2, hb2⟩
  rw [← HA.out] at hn2
  have s2 := s1.below hb2
  have ha2 := ha1.below hb2
  have hbb2 := hbb1.below hb2
  go_wp2_with fail
  refine (ses_write n _ gc2 A _ s2 (by omega) hn2 hAb (by decide) (by decide)).mono ?_
  rintro e w3 ⟨rfl, s3, t3⟩
  have ha3 := s2.nums t3 ha2
  have hbb3 := s2.nums t3 hbb2
  go_wp2_with fail
  have b4 : Below w3.heap.size w3 (w3.alloc (.cells #[.int .i64 n, .int .u32 (Crc.sum A)] 31)) := (Below.refl w3.heap.size w3).alloc (Nat.le_refl _) _
  have s4 := s3.below b4
  have ha4 := ha3.below b4
  have hbb4 := hbb3.below b4
  have rc4 : (w3.alloc (.cells #[.int .i64 n, .int .u32 (Crc.sum A)] 31)).heap[w3.heap.size]? = some (.cells #[.int .i64 n, .int .u32 (Crc.sum A)] 31) := alloc_at rfl _
  have hdr : w3.heap.size ≠ p ∧ w3.heap.size ≠ w0.heap.size + 5 := by have := s3.plt; have := s3.dlt; omega
  generalize w3.alloc (.cells #[.int .i64 n, .int .u32 (Crc.sum A)] 31) = w4 at *
  refine (block_w _ _ _ lb _ hbb4 hnb).mono ?_
  rintro e w5 ⟨g5, gc5, rfl, hn5, hg5, hb5⟩
  rw [← HB.out] at hn5
  have s5 := s4.below hb5
  have ha5 := ha4.below hb5
  have hbb5 := hbb4.below hb5
  have rc5 := keepc hb5 rc4
  go_wp2_with fail
  refine (ses_write m _ gc5 B _ s5 (by omega) hn5 hBb (by decide) (by show 0 + 1 + 1 < _; decide)).mono ?_
  rintro e w6 ⟨rfl, s6, t6⟩
  have ha6 := s5.nums t6 ha5
  have hbb6 := s5.nums t6 hbb5
  have rc6 := s5.cells t6 rc5 hdr.1 hdr.2
  go_wp2_with fail
  have b7 : Below w6.heap.size w6 (w6.alloc (.cells #[.int .i64 m, .int .u32 (Crc.sum B)] 31)) := (Below.refl w6.heap.size w6).alloc (Nat.le_refl _) _
  have s7 := s6.below b7
  have ha7 := ha6.below b7
  have hbb7 := hbb6.below b7
  have rs7 : (w6.alloc (.cells #[.int .i64 m, .int .u32 (Crc.sum B)] 31)).heap[w6.heap.size]? = some (.cells #[.int .i64 m, .int .u32 (Crc.sum B)] 31) := alloc_at rfl _
  have rc7 := keepc b7 rc6
  have hds : w6.heap.size ≠ p ∧ w6.heap.size ≠ w0.heap.size + 5 := by have := s6.plt; have := s6.dlt; omega
  generalize w6.alloc (.cells #[.int .i64 m, .int .u32 (Crc.sum B)] 31) = w7 at *
  refine (DevW.pending_w _ _ _ _ _ _ s7.k.dev).mono ?_
  rintro e w' ⟨rfl, rfl⟩
  have hnp : (two n m A B).np ≤ 4 := two_np_le n m A B hn20 hm20
  rw [show (put2 (put2 (Dv.new 320) 80 n A) 80 m B).np = 4 from two_np n m A B hn20 hm20 hnm]
  have hx : decide ((n : Int) = m) = false := decide_eq_false (by omega)
  go_wp2_with fail
  refine (ses_flush _ s7 (by decide) (by show (two n m A B).np < _; omega) (by show 0+1+1+1+1 < _; decide)).mono ?_
  rintro e w8 ⟨rfl, m8, s8, t8⟩
  have ha8 := s7.nums t8 ha7
  have hbb8 := s7.nums t8 hbb7
  have rc8 := s7.cells t8 rc7 hdr.1 hdr.2
  have rs8 := s7.cells t8 rs7 hds.1 hds.2
  have hread := two_read n m A B
  have hsum := two_sum n m A B
  obtain ⟨n8, hn8⟩ : ∃ x, x = 0 + 2 + 2 + 3 * (put2 (put2 (Dv.new 320) 80 n A) 80 m B).np := ⟨_, rfl⟩
  have hn8' : n8 ≤ 16 := by have : (put2 (put2 (Dv.new 320) 80 n A) 80 m B).np ≤ 4 := hnp; omega
  rw [← hn8] at s8
  replace s8 : Ses w0 w8 n8 m8 (two n m A B).flush p 80 0 := s8
  have hbl : (two n m A B).flush.blocks = 320 := rfl
  have hcl : (two n m A B).flush.calls ≤ 5 := by show 0+1+1+1+1+1 ≤ 5; decide
  generalize (two n m A B).flush = E at *
  clear hn8 hnp
  go_wp2_with fail
  go_loopw [16] (fun iv wr => ∃ i : Nat, i ≤ 320 ∧ iv = .int .i64 i ∧ Below w8.heap.size w8 wr) (fun iv _ => 320 - (intOf iv).toNat)
  case atStart => exact ⟨0, by omega, rfl, Below.refl _ _⟩
  case round =>
    obtain ⟨i, hi, rfl, hb9⟩ := hrel
    by_cases hlt : i < 320
    · clear hi
      by_cases hx1 : n = i
      · subst hx1
        have d0 : decide ((n : Int) = m) = false := decide_eq_false (by omega)
        have d0b : ((n : Int) == m) = false := by rw [beq_eq_false_iff_ne]; omega
        have d1 : decide ((n : Int) = (m : Int) + 80) = false := decide_eq_false (by omega)
        have d1b : ((n : Int) == (m : Int) + 80) = false := by rw [beq_eq_false_iff_ne]; omega
        have s9 := s8.below hb9
        have ha9 := ha8.below hb9
        have hbb9 := hbb8.below hb9
        go_wp2_with fail
        have hr := DevW.read_w bs _ _ _ _ E n _ s9.k.dev (s9.bs hB0) (by rw [hbl]; omega) s9.k.most
        rw [hread] at hr
        refine hr.mono ?_
        rintro e w10 ⟨⟨g10, gc10, rfl, hn10, hg10⟩, hb10⟩
        have s10 := s9.below hb10
        have ha10 := ha9.below hb10
        have hbb10 := hbb9.below hb10
        have B10 : Below w8.heap.size w8 w10 := hb9.trans (hb10.mono hb9.size)
        clear hr
        go_wp2_with fail
        refine (block_w none 0 0 [] _ (Nums.nil _ _) (by omega)).mono ?_
        rintro e w11 ⟨g11, gc11, rfl, hn11, hg11, hb11⟩
        have ha11 := ha10.below hb11
        have hbb11 := hbb10.below hb11
        have hnV11 := hn10.below hb11
        have B11 : Below w8.heap.size w8 w11 := B10.trans (hb11.mono B10.size)
        rw [at2_n n m A B hn20 hm20 hnm] at hnV11
        clear hn10 ha10 hbb10 ha9 hbb9 s9 s10 hb9 hb10 hb11
        go_wp2_with fail
        refine (block_w _ _ _ la _ ha11 hna).mono ?_
        rintro e w12 ⟨g12, gc12, rfl, hn12, hg12, hb12⟩
        have ha12 := ha11.below hb12
        have hbb12 := hbb11.below hb12
        have hnV12 := hnV11.below hb12
        have B12 : Below w8.heap.size w8 w12 := B11.trans (hb12.mono B11.size)
        rw [← HA.out] at hn12
        clear ha11 hbb11 hnV11 hb12
        go_wp2_with fail
        refine (RefW.same_w _ 256 gc10 _ _ 256 gc12 _ _ hnV12 hn12).mono ?_
        rintro e w14 ⟨rfl, hb14⟩
        rw [decide_eq_true rfl]
        have B14 : Below w8.heap.size w8 w14 := B12.trans (hb14.mono B12.size)
        clear hb14 hnV12 hn12 ha12 hbb12
        go_wp2_with fail
        go_roundw
        case rel => exact ⟨n + 1, by omega, by go_num, B14⟩
        case measure => simp [intOf]; omega
      by_cases hx2 : i = n + 80
      · subst hx2
        have d0 : decide ((n : Int) = m) = false := decide_eq_false (by omega)
        have d0b : ((n : Int) == m) = false := by rw [beq_eq_false_iff_ne]; omega
        have d1 : decide ((n : Int) + 80 = (m : Int)) = false := decide_eq_false (by omega)
        have d1b : ((n : Int) + 80 == (m : Int)) = false := by rw [beq_eq_false_iff_ne]; omega
        have d2 : decide ((n : Int) + 80 = (m : Int) + 80) = false := decide_eq_false (by omega)
        have d2b : ((n : Int) + 80 == (m : Int) + 80) = false := by rw [beq_eq_false_iff_ne]; omega
        have s9 := s8.below hb9
        have ha9 := ha8.below hb9
        have hbb9 := hbb8.below hb9
        go_wp2_with fail
        have hr := DevW.read_w bs _ _ _ _ E (n + 80) _ s9.k.dev (s9.bs hB0) (by rw [hbl]; omega) s9.k.most
        rw [hread] at hr
        refine hr.mono ?_
        rintro e w10 ⟨⟨g10, gc10, rfl, hn10, hg10⟩, hb10⟩
        have s10 := s9.below hb10
        have ha10 := ha9.below hb10
        have hbb10 := hbb9.below hb10
        have B10 : Below w8.heap.size w8 w10 := hb9.trans (hb10.mono hb9.size)
        clear hr
        go_wp2_with fail
        refine (block_w none 0 0 [] _ (Nums.nil _ _) (by omega)).mono ?_
        rintro e w11 ⟨g11, gc11, rfl, hn11, hg11, hb11⟩
        have ha11 := ha10.below hb11
        have hbb11 := hbb10.below hb11
        have hnV11 := hn10.below hb11
        have B11 : Below w8.heap.size w8 w11 := B10.trans (hb11.mono B10.size)
        rw [at2_n2 n m A B hn20 hm20 hnm] at hnV11
        clear hn10 ha10 hbb10 ha9 hbb9 s9 s10 hb9 hb10 hb11
        go_wp2_with fail
        refine (block_w _ _ _ la _ ha11 hna).mono ?_
        rintro e w12 ⟨g12, gc12, rfl, hn12, hg12, hb12⟩
        have ha12 := ha11.below hb12
        have hbb12 := hbb11.below hb12
        have hnV12 := hnV11.below hb12
        have B12 : Below w8.heap.size w8 w12 := B11.trans (hb12.mono B11.size)
        rw [← HA.out] at hn12
        clear ha11 hbb11 hnV11 hb12
        go_wp2_with fail
        refine (RefW.same_w _ 256 gc10 _ _ 256 gc12 _ _ hnV12 hn12).mono ?_
        rintro e w14 ⟨rfl, hb14⟩
        rw [decide_eq_true rfl]
        have B14 : Below w8.heap.size w8 w14 := B12.trans (hb14.mono B12.size)
        clear hb14 hnV12 hn12 ha12 hbb12
        go_wp2_with fail
        go_roundw
        case rel => exact ⟨(n + 80) + 1, by omega, by go_num, B14⟩
        case measure => simp [intOf]; omega
      by_cases hx3 : m = i
      · subst hx3
        have d0 : decide ((m : Int) = n) = false := decide_eq_false (by omega)
        have d0b : ((m : Int) == n) = false := by rw [beq_eq_false_iff_ne]; omega
        have d1 : decide ((m : Int) = (n : Int) + 80) = false := decide_eq_false (by omega)
        have d1b : ((m : Int) == (n : Int) + 80) = false := by rw [beq_eq_false_iff_ne]; omega
        have s9 := s8.below hb9
        have ha9 := ha8.below hb9
        have hbb9 := hbb8.below hb9
        go_wp2_with fail
        have hr := DevW.read_w bs _ _ _ _ E m _ s9.k.dev (s9.bs hB0) (by rw [hbl]; omega) s9.k.most
        rw [hread] at hr
        refine hr.mono ?_
        rintro e w10 ⟨⟨g10, gc10, rfl, hn10, hg10⟩, hb10⟩
        have s10 := s9.below hb10
        have ha10 := ha9.below hb10
        have hbb10 := hbb9.below hb10
        have B10 : Below w8.heap.size w8 w10 := hb9.trans (hb10.mono hb9.size)
        clear hr
        go_wp2_with fail
        refine (block_w none 0 0 [] _ (Nums.nil _ _) (by omega)).mono ?_
        rintro e w11 ⟨g11, gc11, rfl, hn11, hg11, hb11⟩
        have ha11 := ha10.below hb11
        have hbb11 := hbb10.below hb11
        have hnV11 := hn10.below hb11
        have B11 : Below w8.heap.size w8 w11 := B10.trans (hb11.mono B10.size)
        rw [at2_m n m A B] at hnV11
        clear hn10 ha10 hbb10 ha9 hbb9 s9 s10 hb9 hb10 hb11
        go_wp2_with fail
        refine (block_w _ _ _ lb _ hbb11 hnb).mono ?_
        rintro e w12 ⟨g12, gc12, rfl, hn12, hg12, hb12⟩
        have ha12 := ha11.below hb12
        have hbb12 := hbb11.below hb12
        have hnV12 := hnV11.below hb12
        have B12 : Below w8.heap.size w8 w12 := B11.trans (hb12.mono B11.size)
        rw [← HB.out] at hn12
        clear ha11 hbb11 hnV11 hb12
        go_wp2_with fail
        refine (RefW.same_w _ 256 gc10 _ _ 256 gc12 _ _ hnV12 hn12).mono ?_
        rintro e w14 ⟨rfl, hb14⟩
        rw [decide_eq_true rfl]
        have B14 : Below w8.heap.size w8 w14 := B12.trans (hb14.mono B12.size)
        clear hb14 hnV12 hn12 ha12 hbb12
        go_wp2_with fail
        go_roundw
        case rel => exact ⟨m + 1, by omega, by go_num, B14⟩
        case measure => simp [intOf]; omega
      by_cases hx4 : i = m + 80
      · subst hx4
        have d0 : decide ((m : Int) = n) = false := decide_eq_false (by omega)
        have d0b : ((m : Int) == n) = false := by rw [beq_eq_false_iff_ne]; omega
        have d1 : decide ((m : Int) + 80 = (n : Int)) = false := decide_eq_false (by omega)
        have d1b : ((m : Int) + 80 == (n : Int)) = false := by rw [beq_eq_false_iff_ne]; omega
        have d2 : decide ((m : Int) + 80 = (n : Int) + 80) = false := decide_eq_false (by omega)
        have d2b : ((m : Int) + 80 == (n : Int) + 80) = false := by rw [beq_eq_false_iff_ne]; omega
        have s9 := s8.below hb9
        have ha9 := ha8.below hb9
        have hbb9 := hbb8.below hb9
        go_wp2_with fail
        have hr := DevW.read_w bs _ _ _ _ E (m + 80) _ s9.k.dev (s9.bs hB0) (by rw [hbl]; omega) s9.k.most
        rw [hread] at hr
        refine hr.mono ?_
        rintro e w10 ⟨⟨g10, gc10, rfl, hn10, hg10⟩, hb10⟩
        have s10 := s9.below hb10
        have ha10 := ha9.below hb10
        have hbb10 := hbb9.below hb10
        have B10 : Below w8.heap.size w8 w10 := hb9.trans (hb10.mono hb9.size)
        clear hr
        go_wp2_with fail
        refine (block_w none 0 0 [] _ (Nums.nil _ _) (by omega)).mono ?_
        rintro e w11 ⟨g11, gc11, rfl, hn11, hg11, hb11⟩
        have ha11 := ha10.below hb11
        have hbb11 := hbb10.below hb11
        have hnV11 := hn10.below hb11
        have B11 : Below w8.heap.size w8 w11 := B10.trans (hb11.mono B10.size)
        rw [at2_m2 n m A B] at hnV11
        clear hn10 ha10 hbb10 ha9 hbb9 s9 s10 hb9 hb10 hb11
        go_wp2_with fail
        refine (block_w _ _ _ lb _ hbb11 hnb).mono ?_
        rintro e w12 ⟨g12, gc12, rfl, hn12, hg12, hb12⟩
        have ha12 := ha11.below hb12
        have hbb12 := hbb11.below hb12
        have hnV12 := hnV11.below hb12
        have B12 : Below w8.heap.size w8 w12 := B11.trans (hb12.mono B11.size)
        rw [← HB.out] at hn12
        clear ha11 hbb11 hnV11 hb12
        go_wp2_with fail
        refine (RefW.same_w _ 256 gc10 _ _ 256 gc12 _ _ hnV12 hn12).mono ?_
        rintro e w14 ⟨rfl, hb14⟩
        rw [decide_eq_true rfl]
        have B14 : Below w8.heap.size w8 w14 := B12.trans (hb14.mono B12.size)
        clear hb14 hnV12 hn12 ha12 hbb12
        go_wp2_with fail
        go_roundw
        case rel => exact ⟨(m + 80) + 1, by omega, by go_num, B14⟩
        case measure => simp [intOf]; omega
      have d0 : decide ((i : Int) = n) = false := decide_eq_false (by omega)
      have d0b : ((i : Int) == n) = false := by rw [beq_eq_false_iff_ne]; omega
      have d1 : decide ((i : Int) = (n : Int) + 80) = false := decide_eq_false (by omega)
      have d1b : ((i : Int) == (n : Int) + 80) = false := by rw [beq_eq_false_iff_ne]; omega
      have d2 : decide ((i : Int) = m) = false := decide_eq_false (by omega)
      have d2b : ((i : Int) == m) = false := by rw [beq_eq_false_iff_ne]; omega
      have d3 : decide ((i : Int) = (m : Int) + 80) = false := decide_eq_false (by omega)
      have d3b : ((i : Int) == (m : Int) + 80) = false := by rw [beq_eq_false_iff_ne]; omega
      have s9 := s8.below hb9
      have ha9 := ha8.below hb9
      have hbb9 := hbb8.below hb9
      go_wp2_with fail
      have hr := DevW.read_w bs _ _ _ _ E i _ s9.k.dev (s9.bs hB0) (by rw [hbl]; omega) s9.k.most
      rw [hread] at hr
      refine hr.mono ?_
      rintro e w10 ⟨⟨g10, gc10, rfl, hn10, hg10⟩, hb10⟩
      have s10 := s9.below hb10
      have ha10 := ha9.below hb10
      have hbb10 := hbb9.below hb10
      have B10 : Below w8.heap.size w8 w10 := hb9.trans (hb10.mono hb9.size)
      clear hr
      go_wp2_with fail
      refine (block_w none 0 0 [] _ (Nums.nil _ _) (by omega)).mono ?_
      rintro e w11 ⟨g11, gc11, rfl, hn11, hg11, hb11⟩
      have ha11 := ha10.below hb11
      have hbb11 := hbb10.below hb11
      have hnV11 := hn10.below hb11
      have B11 : Below w8.heap.size w8 w11 := B10.trans (hb11.mono B10.size)
      rw [at2_none n m A B i hx1 hx2 hx3 hx4] at hnV11
      clear hn10 ha10 hbb10 ha9 hbb9 s9 s10 hb9 hb10 hb11
      go_wp2_with fail
      refine (RefW.same_w _ 256 gc10 _ _ 256 gc11 _ _ hnV11 hn11).mono ?_
      rintro e w14 ⟨rfl, hb14⟩
      rw [decide_eq_true rfl]
      have B14 : Below w8.heap.size w8 w14 := B11.trans (hb14.mono B11.size)
      clear hb14 hnV11 hn11 ha11 hbb11
      go_wp2_with fail
      go_roundw
      case rel => exact ⟨i + 1, by omega, by go_num, B14⟩
      case measure => simp [intOf]; omega
    · obtain rfl : i = 320 := by omega
      have s9 := s8.below hb9
      have ha9 := ha8.below hb9
      have hbb9 := hbb8.below hb9
      have rc9 := keepc hb9 rc8
      have rs9 := keepc hb9 rs8
      clear ha8 hbb8 rc8 rs8 s8 hb9
      have rcells : wr.cell? ⟨w3.heap.size, 0, none⟩ = some (.int .i64 n) ∧ wr.cell? ⟨w3.heap.size, 1, none⟩ = some (.int .u32 (Crc.sum A)) := by
        simp [World.cell?, rc9]
      obtain ⟨rc0, rc1⟩ := rcells
      go_wp2_with fail
      have hr := ses_read (bs := bs) n (Crc.sum A) _ s9 hB0 (by omega) (by omega) (Nat.lt_of_le_of_lt hcl (by decide)) (by decide)
      rw [hsum n (Crc.sum A) 0 ((at2_n2 n m A B hn20 hm20 hnm).trans (at2_n n m A B hn20 hm20 hnm).symm), at2_n n m A B hn20 hm20 hnm, if_pos rfl] at hr
      refine hr.mono ?_
      rintro e w10 ⟨⟨g10, gc10, rfl, hn10⟩, s10, t10⟩
      have hx2 : ((n : Int) == m) = false := by rw [beq_eq_false_iff_ne]; omega
      have ha10 := s9.nums t10 ha9
      have hbb10 := s9.nums t10 hbb9
      have rc10 := s9.cells t10 rc9 hdr.1 hdr.2
      have rs10 := s9.cells t10 rs9 hds.1 hds.2
      clear rc0 rc1 hr
      have rcells : w10.cell? ⟨w6.heap.size, 0, none⟩ = some (.int .i64 m) ∧ w10.cell? ⟨w6.heap.size, 1, none⟩ = some (.int .u32 (Crc.sum B)) := by
        simp [World.cell?, rs10]
      obtain ⟨rc0, rc1⟩ := rcells
      go_wp2_with fail
      have hr := ses_read (bs := bs) m (Crc.sum B) _ s10 hB0 (by omega) (by omega) (Nat.lt_of_le_of_lt hcl (by decide)) (by decide)
      rw [hsum m (Crc.sum B) 0 ((at2_m2 n m A B).trans (at2_m n m A B).symm), at2_m n m A B, if_pos rfl] at hr
      refine hr.mono ?_
      rintro e w11 ⟨⟨g11, gc11, rfl, hn11⟩, s11, t11⟩
      have ha11 := s10.nums t11 ha10
      have hbb11 := s10.nums t11 hbb10
      have rc11 := s10.cells t11 rc10 hdr.1 hdr.2
      have rs11 := s10.cells t11 rs10 hds.1 hds.2
      clear rc0 rc1 hr
      go_wp2_with fail
      refine (block_w _ _ _ lb _ hbb11 hnb).mono ?_
      rintro e w12 ⟨g12, gc12, rfl, hn12, hg12, hb12⟩
      rw [← HB.out] at hn12
      have s12 := s11.below hb12
      have ha12 := ha11.below hb12
      have rc12 := keepc hb12 rc11
      have rs12 := keepc hb12 rs11
      go_wp2_with fail
      refine (RefW.same_w _ 256 gc11 B _ 256 gc12 B _ (hn11.below hb12) hn12).mono ?_
      rintro e w13 ⟨rfl, hb13⟩
      have s13 := s12.below hb13
      have ha13 := ha12.below hb13
      have rc13 := keepc hb13 rc12
      have rs13 := keepc hb13 rs12
      have hn13 := ((s10.nums t11 hn10).below hb12).below hb13
      go_wp2_with fail
      refine (block_w _ _ _ la _ ha13 hna).mono ?_
      rintro e w14 ⟨g14, gc14, rfl, hn14, hg14, hb14⟩
      rw [← HA.out] at hn14
      have s14 := s13.below hb14
      go_wp2_with fail
      refine (RefW.same_w _ 256 gc10 A _ 256 gc14 A _ (hn13.below hb14) hn14).mono ?_
      rintro e w15 ⟨rfl, hb15⟩
      have s15 := s14.below hb15
      go_wp2_with fail
      go_ret
      exact ⟨rfl, hb0.trans (s15.b.mono hb0.size)⟩

set_option maxHeartbeats 12800000 in
theorem same (bs : List Addr) (a0 a1 : Int) (a2 a3 : Option Addr) (len2 cap2 len3 cap3 : Nat) (la lb : List Nat) (w : World) (hB : Fv w bs) (hla : Nums .u8 w a2 len2 cap2 la) (hlb : Nums .u8 w a3 len3 cap3 lb) (hba : Crc.Bytes la) (hbb : Crc.Bytes lb) (hna : len2 ≤ 256) (hnb : len3 ≤ 256)
    (r0 : -9223372036854775808 ≤ a0 ∧ a0 ≤ 9223372036854775807) (r1 : -9223372036854775808 ≤ a1 ∧ a1 ≤ 9223372036854775807)
    (hd : a1 % 20 = a0 % 20)
    :
    Calls Tryd.prog 5 #[.int .i64 a0, .int .i64 a1, .slice a2 len2 cap2, .slice a3 len3 cap3] w fun e w' => e = .returned (.bool true) ∧ Below w.heap.size w w' := by
  obtain ⟨A, hA⟩ : ∃ P, P = Crc.pad la := ⟨_, rfl⟩
  have hAb : Blk A := by rw [hA]; exact pad_blk hba (by rw [hla.len]; exact hna)
  have HA := hid hA
  clear hA
  obtain ⟨B, hB'⟩ : ∃ P, P = Crc.pad lb := ⟨_, rfl⟩
  have hBb : Blk B := by rw [hB']; exact pad_blk hbb (by rw [hlb.len]; exact hnb)
  have HB := hid hB'
  clear hB'
  have hh : GeoW.half 320 = 80 := by decide
  obtain ⟨n, hnn⟩ : ∃ n : Nat, a0 % 20 = n := ⟨(a0 % 20).toNat, by have := Int.emod_nonneg a0 (b := 20) (by omega); omega⟩
  have hn20 : n < 20 := by have := Int.emod_lt_of_pos a0 (b := 20) (by omega); omega
  have hmm : a1 % 20 = (n : Int) := hd.trans hnn
  obtain ⟨r0, r0'⟩ := r0
  obtain ⟨r1, r1'⟩ := r1
  go_enter Tryd.func5, Tryd.ntmps5
  go_wp2_with fail
  refine (first_w bs _ hB).mono ?_
  rintro e w0 ⟨rfl, hb0⟩
  have hB0 := hB.below hb0
  have ha0 := hla.below hb0
  have hbb0 := hlb.below hb0
  clear hla hlb hB
  go_wp2_with fail
  refine (NumW.number_w a0 20 _ (by decide) (by decide) r0 r0').mono ?_
  rintro e w' ⟨rfl, rfl⟩
  rw [hnn]
  go_wp2_with fail
  refine (NumW.number_w a1 20 _ (by decide) (by decide) r1 r1').mono ?_
  rintro e w' ⟨rfl, rfl⟩
  rw [hmm]
  go_wp2_with fail
  refine (ses_open 320 _ (by omega) (by omega)).mono ?_
  rintro e w1 ⟨p, rfl, s1⟩
  have ha1 := ha0.below s1.b
  have hbb1 := hbb0.below s1.b
  rw [hh] at s1
  go_wp2_with fail
  refine (block_w _ _ _ la _ ha1 hna).mono ?_
  rintro e w2 ⟨g2, gc2, rfl, hn2, hg2, hb2⟩
  rw [← HA.out] at hn2
  have s2 := s1.below hb2
  have ha2 := ha1.below hb2
  have hbb2 := hbb1.below hb2
  go_wp2_with fail
  refine (ses_write n _ gc2 A _ s2 (by omega) hn2 hAb (by decide) (by decide)).mono ?_
  rintro e w3 ⟨rfl, s3, t3⟩
  have ha3 := s2.nums t3 ha2
  have hbb3 := s2.nums t3 hbb2
  go_wp2_with fail
  have b4 : Below w3.heap.size w3 (w3.alloc (.cells #[.int .i64 n, .int .u32 (Crc.sum A)] 31)) := (Below.refl w3.heap.size w3).alloc (Nat.le_refl _) _
  have s4 := s3.below b4
  have ha4 := ha3.below b4
  have hbb4 := hbb3.below b4
  have rc4 : (w3.alloc (.cells #[.int .i64 n, .int .u32 (Crc.sum A)] 31)).heap[w3.heap.size]? = some (.cells #[.int .i64 n, .int .u32 (Crc.sum A)] 31) := alloc_at rfl _
  have hdr : w3.heap.size ≠ p ∧ w3.heap.size ≠ w0.heap.size + 5 := by have := s3.plt; have := s3.dlt; omega
  generalize w3.alloc (.cells #[.int .i64 n, .int .u32 (Crc.sum A)] 31) = w4 at *
  refine (block_w _ _ _ lb _ hbb4 hnb).mono ?_
  rintro e w5 ⟨g5, gc5, rfl, hn5, hg5, hb5⟩
  rw [← HB.out] at hn5
  have s5 := s4.below hb5
  have ha5 := ha4.below hb5
  have hbb5 := hbb4.below hb5
  have rc5 := keepc hb5 rc4
  go_wp2_with fail
  refine (ses_write n _ gc5 B _ s5 (by omega) hn5 hBb (by decide) (by show 0 + 1 + 1 < _; decide)).mono ?_
  rintro e w6 ⟨rfl, s6, t6⟩
  have ha6 := s5.nums t6 ha5
  have hbb6 := s5.nums t6 hbb5
  have rc6 := s5.cells t6 rc5 hdr.1 hdr.2
  go_wp2_with fail
  have b7 : Below w6.heap.size w6 (w6.alloc (.cells #[.int .i64 n, .int .u32 (Crc.sum B)] 31)) := (Below.refl w6.heap.size w6).alloc (Nat.le_refl _) _
  have s7 := s6.below b7
  have ha7 := ha6.below b7
  have hbb7 := hbb6.below b7
  have rs7 : (w6.alloc (.cells #[.int .i64 n, .int .u32 (Crc.sum B)] 31)).heap[w6.heap.size]? = some (.cells #[.int .i64 n, .int .u32 (Crc.sum B)] 31) := alloc_at rfl _
  have rc7 := keepc b7 rc6
  have hds : w6.heap.size ≠ p ∧ w6.heap.size ≠ w0.heap.size + 5 := by have := s6.plt; have := s6.dlt; omega
  generalize w6.alloc (.cells #[.int .i64 n, .int .u32 (Crc.sum B)] 31) = w7 at *
  refine (DevW.pending_w _ _ _ _ _ _ s7.k.dev).mono ?_
  rintro e w' ⟨rfl, rfl⟩
  have hnp : (two n n A B).np ≤ 4 := two_np_le n n A B hn20 hn20
  rw [show (put2 (put2 (Dv.new 320) 80 n A) 80 n B).np = 2 from two_np_same n n A B rfl]
  go_wp2_with fail
  refine (ses_flush _ s7 (by decide) (by show (two n n A B).np < _; omega) (by show 0+1+1+1+1 < _; decide)).mono ?_
  rintro e w8 ⟨rfl, m8, s8, t8⟩
  have ha8 := s7.nums t8 ha7
  have hbb8 := s7.nums t8 hbb7
  have rc8 := s7.cells t8 rc7 hdr.1 hdr.2
  have rs8 := s7.cells t8 rs7 hds.1 hds.2
  have hread := two_read n n A B
  have hsum := two_sum n n A B
  obtain ⟨n8, hn8⟩ : ∃ x, x = 0 + 2 + 2 + 3 * (put2 (put2 (Dv.new 320) 80 n A) 80 n B).np := ⟨_, rfl⟩
  have hn8' : n8 ≤ 16 := by have : (put2 (put2 (Dv.new 320) 80 n A) 80 n B).np ≤ 4 := hnp; omega
  rw [← hn8] at s8
  replace s8 : Ses w0 w8 n8 m8 (two n n A B).flush p 80 0 := s8
  have hbl : (two n n A B).flush.blocks = 320 := rfl
  have hcl : (two n n A B).flush.calls ≤ 5 := by show 0+1+1+1+1+1 ≤ 5; decide
  generalize (two n n A B).flush = E at *
  clear hn8 hnp
  go_wp2_with fail
  go_loopw [16] (fun iv wr => ∃ i : Nat, i ≤ 320 ∧ iv = .int .i64 i ∧ Below w8.heap.size w8 wr) (fun iv _ => 320 - (intOf iv).toNat)
  case atStart => exact ⟨0, by omega, rfl, Below.refl _ _⟩
  case round =>
    obtain ⟨i, hi, rfl, hb9⟩ := hrel
    by_cases hlt : i < 320
    · clear hi
      by_cases hx1 : n = i
      · subst hx1
        have s9 := s8.below hb9
        have ha9 := ha8.below hb9
        have hbb9 := hbb8.below hb9
        go_wp2_with fail
        have hr := DevW.read_w bs _ _ _ _ E n _ s9.k.dev (s9.bs hB0) (by rw [hbl]; omega) s9.k.most
        rw [hread] at hr
        refine hr.mono ?_
        rintro e w10 ⟨⟨g10, gc10, rfl, hn10, hg10⟩, hb10⟩
        have s10 := s9.below hb10
        have ha10 := ha9.below hb10
        have hbb10 := hbb9.below hb10
        have B10 : Below w8.heap.size w8 w10 := hb9.trans (hb10.mono hb9.size)
        clear hr
        go_wp2_with fail
        refine (block_w none 0 0 [] _ (Nums.nil _ _) (by omega)).mono ?_
        rintro e w11 ⟨g11, gc11, rfl, hn11, hg11, hb11⟩
        have ha11 := ha10.below hb11
        have hbb11 := hbb10.below hb11
        have hnV11 := hn10.below hb11
        have B11 : Below w8.heap.size w8 w11 := B10.trans (hb11.mono B10.size)
        rw [at2_m n n A B] at hnV11
        clear hn10 ha10 hbb10 ha9 hbb9 s9 s10 hb9 hb10 hb11
        go_wp2_with fail
        refine (block_w _ _ _ la _ ha11 hna).mono ?_
        rintro e w12 ⟨g12, gc12, rfl, hn12, hg12, hb12⟩
        have ha12 := ha11.below hb12
        have hbb12 := hbb11.below hb12
        have hnV12 := hnV11.below hb12
        have B12 : Below w8.heap.size w8 w12 := B11.trans (hb12.mono B11.size)
        rw [← HA.out] at hn12
        clear ha11 hbb11 hnV11 hb12
        go_wp2_with fail
        refine (block_w _ _ _ lb _ hbb12 hnb).mono ?_
        rintro e w13 ⟨g13, gc13, rfl, hn13, hg13, hb13⟩
        have ha13 := ha12.below hb13
        have hbb13 := hbb12.below hb13
        have hnV13 := hnV12.below hb13
        have B13 : Below w8.heap.size w8 w13 := B12.trans (hb13.mono B12.size)
        rw [← HB.out] at hn13
        clear ha12 hbb12 hnV12 hb13
        go_wp2_with fail
        refine (RefW.same_w _ 256 gc10 _ _ 256 gc13 _ _ hnV13 hn13).mono ?_
        rintro e w14 ⟨rfl, hb14⟩
        rw [decide_eq_true rfl]
        have B14 : Below w8.heap.size w8 w14 := B13.trans (hb14.mono B13.size)
        clear hb14 hnV13 hn13 ha13 hbb13
        go_wp2_with fail
        go_roundw
        case rel => exact ⟨n + 1, by omega, by go_num, B14⟩
        case measure => simp [intOf]; omega
      by_cases hx2 : i = n + 80
      · subst hx2
        have s9 := s8.below hb9
        have ha9 := ha8.below hb9
        have hbb9 := hbb8.below hb9
        go_wp2_with fail
        have hr := DevW.read_w bs _ _ _ _ E (n + 80) _ s9.k.dev (s9.bs hB0) (by rw [hbl]; omega) s9.k.most
        rw [hread] at hr
        refine hr.mono ?_
        rintro e w10 ⟨⟨g10, gc10, rfl, hn10, hg10⟩, hb10⟩
        have s10 := s9.below hb10
        have ha10 := ha9.below hb10
        have hbb10 := hbb9.below hb10
        have B10 : Below w8.heap.size w8 w10 := hb9.trans (hb10.mono hb9.size)
        clear hr
        go_wp2_with fail
        refine (block_w none 0 0 [] _ (Nums.nil _ _) (by omega)).mono ?_
        rintro e w11 ⟨g11, gc11, rfl, hn11, hg11, hb11⟩
        have ha11 := ha10.below hb11
        have hbb11 := hbb10.below hb11
        have hnV11 := hn10.below hb11
        have B11 : Below w8.heap.size w8 w11 := B10.trans (hb11.mono B10.size)
        rw [at2_m2 n n A B] at hnV11
        clear hn10 ha10 hbb10 ha9 hbb9 s9 s10 hb9 hb10 hb11
        go_wp2_with fail
        refine (block_w _ _ _ la _ ha11 hna).mono ?_
        rintro e w12 ⟨g12, gc12, rfl, hn12, hg12, hb12⟩
        have ha12 := ha11.below hb12
        have hbb12 := hbb11.below hb12
        have hnV12 := hnV11.below hb12
        have B12 : Below w8.heap.size w8 w12 := B11.trans (hb12.mono B11.size)
        rw [← HA.out] at hn12
        clear ha11 hbb11 hnV11 hb12
        go_wp2_with fail
        refine (block_w _ _ _ lb _ hbb12 hnb).mono ?_
        rintro e w13 ⟨g13, gc13, rfl, hn13, hg13, hb13⟩
        have ha13 := ha12.below hb13
        have hbb13 := hbb12.below hb13
        have hnV13 := hnV12.below hb13
        have B13 : Below w8.heap.size w8 w13 := B12.trans (hb13.mono B12.size)
        rw [← HB.out] at hn13
        clear ha12 hbb12 hnV12 hb13
        go_wp2_with fail
        refine (RefW.same_w _ 256 gc10 _ _ 256 gc13 _ _ hnV13 hn13).mono ?_
        rintro e w14 ⟨rfl, hb14⟩
        rw [decide_eq_true rfl]
        have B14 : Below w8.heap.size w8 w14 := B13.trans (hb14.mono B13.size)
        clear hb14 hnV13 hn13 ha13 hbb13
        go_wp2_with fail
        go_roundw
        case rel => exact ⟨(n + 80) + 1, by omega, by go_num, B14⟩
        case measure => simp [intOf]; omega
      have d0 : decide ((i : Int) = n) = false := decide_eq_false (by omega)
      have d0b : ((i : Int) == n) = false := by rw [beq_eq_false_iff_ne]; omega
      have d1 : decide ((i : Int) = (n : Int) + 80) = false := decide_eq_false (by omega)
      have d1b : ((i : Int) == (n : Int) + 80) = false := by rw [beq_eq_false_iff_ne]; omega
      have s9 := s8.below hb9
      have ha9 := ha8.below hb9
      have hbb9 := hbb8.below hb9
      go_wp2_with fail
      have hr := DevW.read_w bs _ _ _ _ E i _ s9.k.dev (s9.bs hB0) (by rw [hbl]; omega) s9.k.most
      rw [hread] at hr
      refine hr.mono ?_
      rintro e w10 ⟨⟨g10, gc10, rfl, hn10, hg10⟩, hb10⟩
      have s10 := s9.below hb10
      have ha10 := ha9.below hb10
      have hbb10 := hbb9.below hb10
      have B10 : Below w8.heap.size w8 w10 := hb9.trans (hb10.mono hb9.size)
      clear hr
      go_wp2_with fail
      refine (block_w none 0 0 [] _ (Nums.nil _ _) (by omega)).mono ?_
      rintro e w11 ⟨g11, gc11, rfl, hn11, hg11, hb11⟩
      have ha11 := ha10.below hb11
      have hbb11 := hbb10.below hb11
      have hnV11 := hn10.below hb11
      have B11 : Below w8.heap.size w8 w11 := B10.trans (hb11.mono B10.size)
      rw [at2_none n n A B i hx1 hx2 hx1 hx2] at hnV11
      clear hn10 ha10 hbb10 ha9 hbb9 s9 s10 hb9 hb10 hb11
      go_wp2_with fail
      refine (RefW.same_w _ 256 gc10 _ _ 256 gc11 _ _ hnV11 hn11).mono ?_
      rintro e w14 ⟨rfl, hb14⟩
      rw [decide_eq_true rfl]
      have B14 : Below w8.heap.size w8 w14 := B11.trans (hb14.mono B11.size)
      clear hb14 hnV11 hn11 ha11 hbb11
      go_wp2_with fail
      go_roundw
      case rel => exact ⟨i + 1, by omega, by go_num, B14⟩
      case measure => simp [intOf]; omega
    · obtain rfl : i = 320 := by omega
      have s9 := s8.below hb9
      have ha9 := ha8.below hb9
      have hbb9 := hbb8.below hb9
      have rc9 := keepc hb9 rc8
      have rs9 := keepc hb9 rs8
      clear ha8 hbb8 rc8 rs8 s8 hb9
      have rcells : wr.cell? ⟨w3.heap.size, 0, none⟩ = some (.int .i64 n) ∧ wr.cell? ⟨w3.heap.size, 1, none⟩ = some (.int .u32 (Crc.sum A)) := by
        simp [World.cell?, rc9]
      obtain ⟨rc0, rc1⟩ := rcells
      go_wp2_with fail
      have hr := ses_read (bs := bs) n (Crc.sum A) _ s9 hB0 (by omega) (by omega) (Nat.lt_of_le_of_lt hcl (by decide)) (by decide)
      rw [hsum n (Crc.sum A) 0 ((at2_m2 n n A B).trans (at2_m n n A B).symm), at2_m n n A B] at hr
      by_cases hs : Crc.sum B = Crc.sum A
      case' pos =>
        rw [if_pos hs] at hr
        refine hr.mono ?_
        rintro e w10 ⟨⟨g10, gc10, rfl, hn10⟩, s10, t10⟩
        have hsd : decide ((Crc.sum A : Int) = Crc.sum B) = true := decide_eq_true (by omega)
        have hsd2 : ((Crc.sum A : Int) == Crc.sum B) = true := by rw [beq_iff_eq]; omega
      case' neg =>
        rw [if_neg hs] at hr
        refine hr.mono ?_
        rintro e w10 ⟨⟨aI, haI, rfl⟩, s10, t10⟩
        have hsd : decide ((Crc.sum A : Int) = Crc.sum B) = false := decide_eq_false (by omega)
        have hsd2 : ((Crc.sum A : Int) == Crc.sum B) = false := by rw [beq_eq_false_iff_ne]; omega
      all_goals
        have ha10 := s9.nums t10 ha9
        have hbb10 := s9.nums t10 hbb9
        have rc10 := s9.cells t10 rc9 hdr.1 hdr.2
        have rs10 := s9.cells t10 rs9 hds.1 hds.2
        clear rc0 rc1 hr
        have rcells : w10.cell? ⟨w6.heap.size, 0, none⟩ = some (.int .i64 n) ∧ w10.cell? ⟨w6.heap.size, 1, none⟩ = some (.int .u32 (Crc.sum B)) := by
          simp [World.cell?, rs10]
        obtain ⟨rc0, rc1⟩ := rcells
        replace hsd := hid hsd
        replace hsd2 := hid hsd2
        clear hs
        go_wp2_with fail
        have hr := ses_read (bs := bs) n (Crc.sum B) _ s10 hB0 (by omega) (by omega) (Nat.lt_of_le_of_lt hcl (by decide)) (by decide)
        rw [hsum n (Crc.sum B) 0 ((at2_m2 n n A B).trans (at2_m n n A B).symm), at2_m n n A B, if_pos rfl] at hr
        refine hr.mono ?_
        rintro e w11 ⟨⟨g11, gc11, rfl, hn11⟩, s11, t11⟩
        have ha11 := s10.nums t11 ha10
        have hbb11 := s10.nums t11 hbb10
        have rc11 := s10.cells t11 rc10 hdr.1 hdr.2
        have rs11 := s10.cells t11 rs10 hds.1 hds.2
        clear rc0 rc1 hr
        go_wp2_with fail
        refine (block_w _ _ _ lb _ hbb11 hnb).mono ?_
        rintro e w12 ⟨g12, gc12, rfl, hn12, hg12, hb12⟩
        rw [← HB.out] at hn12
        have s12 := s11.below hb12
        have ha12 := ha11.below hb12
        have rc12 := keepc hb12 rc11
        have rs12 := keepc hb12 rs11
        go_wp2_with fail
        refine (RefW.same_w _ 256 gc11 B _ 256 gc12 B _ (hn11.below hb12) hn12).mono ?_
        rintro e w13 ⟨rfl, hb13⟩
        have s13 := s12.below hb13
        have ha13 := ha12.below hb13
        have rc13 := keepc hb13 rc12
        have rs13 := keepc hb13 rs12
        have r0 : w13.cell? ⟨w3.heap.size, 1, none⟩ = some (.int .u32 (Crc.sum A)) := by simp [World.cell?, rc13]
        have r1' : w13.cell? ⟨w6.heap.size, 1, none⟩ = some (.int .u32 (Crc.sum B)) := by simp [World.cell?, rs13]
        replace hsd := hsd.out
        replace hsd2 := hsd2.out
        go_wp2
        go_quiet (fail)
        go_wp2
        go_ret
        exact ⟨rfl, hb0.trans ((s13.below (below_drewN (Below.refl _ _) _)).b.mono hb0.size)⟩

theorem walk (a0 a1 : Int) (a2 : Option Addr) (len2 cap2 : Nat) (z2 : List Int) (a3 : Option Addr) (len3 cap3 : Nat) (z3 : List Int) (w : World) (hE : Err.All w [4, 0, 1, 3, 2]) (w0 : (Lit.int .i64 a0).wf = true) (w1 : (Lit.int .i64 a1).wf = true) (w2 : IsRow .u8 w a2 len2 cap2 z2) (w3 : IsRow .u8 w a3 len3 cap3 z3) :
    Calls Tryd.prog 5 #[.int .i64 a0, .int .i64 a1, .slice a2 len2 cap2, .slice a3 len3 cap3] w fun e w' => e = .returned (.bool true) ∧ Below w.heap.size w w' := by
  obtain ⟨la, hla, hxa⟩ := nums_of rfl w2
  obtain ⟨lb, hlb, hxb⟩ := nums_of rfl w3
  obtain ⟨x1, h1⟩ := hE.at 0 _ rfl
  obtain ⟨x2, h2⟩ := hE.at 1 _ rfl
  obtain ⟨x3, h3⟩ := hE.at 2 _ rfl
  obtain ⟨x4, h4⟩ := hE.at 3 _ rfl
  obtain ⟨x5, h5⟩ := hE.at 4 _ rfl
  obtain ⟨bs, hB⟩ := Fv.make h1 h2 h3 h4 h5
  by_cases h : 256 < len2 ∨ 256 < len3
  · exact over bs a0 a1 a2 a3 len2 cap2 len3 cap3 w hB h
  · by_cases hd : a1 % 20 = a0 % 20
    · exact same bs a0 a1 a2 a3 len2 cap2 len3 cap3 la lb w hB hla hlb hxa hxb (by omega) (by omega) (int_of w0) (int_of w1) hd
    · exact apart bs a0 a1 a2 a3 len2 cap2 len3 cap3 la lb w hB hla hlb hxa hxb (by omega) (by omega) (int_of w0) (int_of w1) fun h => hd h.symm
end Go.Proofs.YtjecnjgngahmfaaDoor.pairApart
