/- The walk of BlobHeld. -/
import Derived.Test.YtjecnjgngahmfaaDoorBlobPlain
import Derived.Test.YtjecnjgngahmfaaDoorNumWalk
namespace Go.Proofs.YtjecnjgngahmfaaDoor.blobHeld
open Go Go.RowKit Go.Maps Go.Proofs.YtjecnjgngahmfaaDoor.Mem Go.Proofs.YtjecnjgngahmfaaDoor.MapsW Go.Proofs.YtjecnjgngahmfaaDoor.SeeW Go.Proofs.YtjecnjgngahmfaaDoor.DevG Go.Proofs.YtjecnjgngahmfaaDoor.BlobW
set_option linter.unusedVariables false
set_option maxRecDepth 100000

theorem over (a0 : Option Addr) (n cap : Nat) (l : List Nat) (a1 : Int) (bs : List Addr) (w : World) (hB : Bs w bs) (hl : Nums .u8 w a0 n cap l) (hn : 256 < n) :
    Calls Tryd.prog 3 #[.slice a0 n cap, .int .i64 a1] w fun e w' => e = .returned (.bool true) ∧ Below w.heap.size w w' := by
  have hbd := hl.bound
  go_enter Tryd.func3, Tryd.ntmps3
  go_wp2_with fail
  refine (lawfirst_w bs w (Ev.of_bs hB _ (by decide))).mono ?_
  rintro e w1 ⟨rfl, b1⟩
  go_wp2_with fail
  go_ret
  exact ⟨rfl, b1⟩
/-- i blocks put behind the first one, which was dropped -/
def St (w1 : World) (a u q R : Nat) (P : List Nat) (i : Nat) (wr : World) : Prop := ∃ D, AAt wr w1.heap.size (w1.heap.size + 5) (3 + 2 * i) (mp w1.heap.size) D a u q (hA i) ∧ Okd D (1 + i) ∧ D.read 150 = some P ∧ cells2 R (.int .i64 150) (.int .u32 (Crc.sum P : Nat)) wr ∧ Below w1.heap.size w1 wr
theorem St.below {w1 : World} {a u q R : Nat} {P : List Nat} {i : Nat} {wr w' : World} (h : St w1 a u q R P i wr) (hb : Below wr.heap.size wr w') : St w1 a u q R P i w' := by
  obtain ⟨D, h1, h2, h3, h4, h5⟩ := h
  exact ⟨D, h1.below hb, h2, h3, (hb.block _ (Array.getElem?_eq_some_iff.1 h4).1).trans h4, h5.trans (hb.mono h5.size)⟩
theorem St.put {w1 : World} {a u q R : Nat} {P : List Nat} {i : Nat} {wr : World} (h : St w1 a u q R P i wr) (hi : i < 149) (RO : R ∉ aown (w1.heap.size + 5) (mp w1.heap.size) a u q) (s : Option Addr) (n cap : Nat) (l : List Nat) (hl : Nums .u8 wr s n cap l) (hlb : Crc.Bytes l) (hn : n ≤ 256) :
    Calls Tryd.prog 16 #[ptr a, .slice s n cap] wr fun e w' => e = .returned (.tuple #[.agg #[.int .i64 (151 + (i : Int)), .int .u32 (Crc.sum (Crc.pad l) : Nat)], .nilIface]) ∧ St w1 a u q R P (i + 1) w' := by
  obtain ⟨D, h1, h2, h3, h4, h5⟩ := h
  have hnx := hA_next hi
  rw [← h2.blocks] at hnx
  refine (put_w _ _ _ _ _ a u q _ (151 + i) s n cap l wr h1 hl hlb hn (by omega) (by rw [h2.calls]; omega) h2.fuse h2.down (by rw [h2.blocks, first_300]; show 150 ≤ 150 + i ∧ 150 + i < 300; omega) hnx).mono ?_
  rintro e w' ⟨rfl, A, T⟩
  rw [hA_put] at A
  refine ⟨by rw [show ((151 + i : Nat) : Int) = 151 + (i : Int) by omega], _, A.mono (by omega), ?_, ?_, T.cells h4 RO, h5.trans (T.below h5.size h1.own_lo)⟩
  · have := h2.put ((151 + i : Nat) : Int) (Crc.pad_bytes hlb)
    rw [show 1 + (i + 1) = 1 + i + 1 by omega]
    exact this
  · rw [put_read, if_neg (by omega)]; exact h3
set_option maxHeartbeats 6400000 in
theorem done (a0 : Option Addr) (n cap : Nat) (l : List Nat) (a1 : Int) (bs : List Addr) (w : World) (hB : Bs w bs) (hl : Nums .u8 w a0 n cap l) (hlb : Crc.Bytes l) (hn : n ≤ 256) (h1 : -9223372036854775808 ≤ a1 ∧ a1 ≤ 9223372036854775807) :
    Calls Tryd.prog 3 #[.slice a0 n cap, .int .i64 a1] w fun e w' => e = .returned (.bool true) ∧ Below w.heap.size w w' := by
  have hll := hl.len
  have LB := hid hlb
  have PB := hid (Crc.pad_bytes hlb)
  have dn : decide ((256 : Int) < (n : Int)) = false := by rw [decide_eq_false_iff_not]; omega
  clear hlb
  go_enter Tryd.func3, Tryd.ntmps3
  go_wp2_with fail
  refine (lawfirst_w bs w (Ev.of_bs hB _ (by decide))).mono ?_
  rintro e w1 ⟨rfl, b1⟩
  have HBs := hid (hB.below b1)
  have HL := hid (hl.below b1)
  have HB1 := hid b1
  clear hB hl b1
  go_wp2_with fail
  refine (NumW.number_w a1 149 _ (by decide) (by decide) h1.1 h1.2).mono ?_
  rintro e w' ⟨rfl, rfl⟩
  obtain ⟨k, hk⟩ := Int.eq_ofNat_of_zero_le (Int.emod_nonneg a1 (show (149 : Int) ≠ 0 by decide))
  have hk9 : k < 149 := by have := Int.emod_lt_of_pos a1 (show (0 : Int) < 149 by decide); omega
  rw [hk]
  clear hk h1
  go_wp2_with fail
  refine (opened_w 300 w1 (by decide) (by decide)).mono ?_
  rintro e w2 ⟨a, u, q, rfl, A2, b2⟩
  have L2 := HL.out.below b2
  have hput := put_w _ _ _ _ _ a u q _ 150 _ n cap l _ A2 L2 LB.out hn (by decide) (by decide) rfl rfl (by decide) none_next
  unfold Put at hput
  simp only [Int.cast_ofNat_Int] at hput
  have D1 := hid (Okd.new.put 150 PB.out)
  have R1 := hid (show ((Dv.new 300).put 150 (Crc.pad l)).read 150 = some (Crc.pad l) by rw [put_read, if_pos rfl])
  have LO := hid A2.own_lo
  have B2 := hid b2
  clear L2 b2
  generalize (Dv.new 300).put 150 (Crc.pad l) = D at *
  clear A2
  go_wp2_with fail
  refine hput.mono ?_
  rintro e w3 ⟨rfl, A3, T3⟩
  have b4 := (Below.refl w3.heap.size w3).alloc (Nat.le_refl _) (.cells #[.int .i64 150, .int .u32 (Crc.sum (Crc.pad l) : Nat)] 31)
  have r4 : cells2 w3.heap.size (.int .i64 150) (.int .u32 (Crc.sum (Crc.pad l) : Nat)) (w3.alloc (.cells #[.int .i64 150, .int .u32 (Crc.sum (Crc.pad l) : Nat)] 31)) := heap_alloc_new _ _
  have A4 := A3.below b4
  have RO := hid (show w3.heap.size ∉ aown (w1.heap.size + 5) (mp w1.heap.size) a u q from fun e => by have := A3.old _ e; omega)
  have B4 := hid (B2.out.trans ((T3.below B2.out.size LO.out).trans (b4.mono (Nat.le_trans B2.out.size T3.size))))
  have hdr := drop_w _ _ _ _ _ a u q _ 150 (Crc.sum (Crc.pad l) : Nat) _ A4 (by decide) (by decide) (by decide)
  rw [hA_zero] at hdr
  obtain ⟨x0, x1, _, _⟩ := RootW.blk_c r4
  have R4 := hid r4
  clear hput T3 A3 b4 A4 B2 r4
  go_wp2_with fail
  generalize w3.heap.size = R at *
  refine hdr.mono ?_
  rintro e w5 ⟨rfl, A5, T5⟩
  have r5 : cells2 R (.int .i64 150) (.int .u32 (Crc.sum (Crc.pad l) : Nat)) w5 := T5.cells R4.out RO.out
  obtain ⟨x0, x1, _, _⟩ := RootW.blk_c r5
  have B5 := hid (B4.out.trans (T5.below B4.out.size LO.out))
  have hdn := drop_no _ _ _ _ _ a u q _ 150 (Crc.sum (Crc.pad l) : Nat) _ A5 (by decide) hA_used
  have R5 := hid r5
  have A5' := hid A5
  clear hdr T5 A5 r5 R4 B4
  go_wp2_with fail
  refine hdn.mono ?_
  rintro e w6 ⟨rfl, b6⟩
  have S6 := St.below (i := 0) (P := Crc.pad l) ⟨D, A5'.out, D1.out, R1.out, R5.out, B5.out⟩ b6
  have HS6 := hid S6
  clear hdn b6 R5 A5' x0 x1 B5 S6
  go_wp2_with fail
  go_loopw [10] (fun iv wr => ∃ i : Nat, i ≤ k + 1 ∧ iv = .int .i64 (i : Int) ∧ St w1 a u q R (Crc.pad l) i wr) (fun iv _ => k + 1 - (intOf iv).toNat)
  case atStart => exact ⟨0, by omega, rfl, HS6.out⟩
  case round =>
    clear HS6
    obtain ⟨i, hi, rfl, hS⟩ := hrel
    have HS := hid hS
    by_cases hlt : i < k + 1
    · have hput := (hS.below ((Below.refl wr.heap.size wr).alloc (Nat.le_refl _) (.cells #[.int .u8 (i : Int)] 5))).put (by omega) RO.out _ 1 1 [i] (new1 wr i) (by intro x hx; simp at hx; omega) (by decide)
      clear hS
      go_wp2_with fail
      refine hput.mono ?_
      rintro e w7 ⟨rfl, S7⟩
      have b8 := (Below.refl w7.heap.size w7).alloc (Nat.le_refl _) (.cells #[.int .i64 (151 + (i : Int)), .int .u32 (Crc.sum (Crc.pad [i]) : Nat)] 31)
      have S8 := hid (S7.below b8)
      obtain ⟨y0, y1⟩ := Mem.new2 w7 (.int .i64 (151 + (i : Int))) (.int .u32 (Crc.sum (Crc.pad [i]) : Nat)) 31
      obtain ⟨D8, _, _, _, r8, _⟩ := S8.out
      obtain ⟨x0, x1, _, _⟩ := RootW.blk_c r8
      clear hput S7 b8 HS
      go_wp2_with fail
      go_roundw
      case rel => exact ⟨i + 1, by omega, by go_num, S8.out⟩
      case measure => simp [intOf]; omega
    · obtain rfl : i = k + 1 := by omega
      obtain ⟨E, A7, D7, R7, C7, B7⟩ := hS
      have hg := get_w bs _ _ _ _ _ a u q _ 150 (Crc.sum (Crc.pad l)) wr A7 (by decide) (Crc.sum_lt PB.out) ((Ev.of_bs HBs.out _ (by decide)).below B7) D7.bytes
      rw [D7.got (by decide) R7, if_pos rfl] at hg
      have hle := fun w' (hb : Below wr.heap.size wr w') => left_w _ _ _ _ _ a u q _ w' (A7.below hb) (by show k + 1 ≤ 100000; omega) (by show 1 ≤ 100000; omega)
      rw [D7.blocks, datas_300, show ((150 : Nat) : Int) - ((hA (k + 1)).nu : Int) - ((hA (k + 1)).nh : Int) = 149 - ((k : Int) + 1) by show ((150 : Nat) : Int) - ((k + 1 : Nat) : Int) - ((1 : Nat) : Int) = _; omega] at hle
      obtain ⟨x0, x1, _, _⟩ := RootW.blk_c C7
      have C7' := hid C7
      have L7 := hid (HL.out.below B7)
      clear A7 D7 R7 B7 C7
      go_wp2_with fail
      refine hg.mono ?_
      rintro e w8 ⟨⟨g, gc, rfl, hn8, hg8⟩, b8⟩
      have S8 := hid (HS.out.below b8)
      have L8 := L7.out.below b8
      have hfl := full_w a0 n cap l w8 L8 hn
      have B8 := hid b8
      have N8 := hid hn8
      clear hg x0 x1 L7 HS b8 hg8 L8 hn8 C7'
      go_wp2_with fail
      refine hfl.mono ?_
      rintro e w9 ⟨g9, gc9, rfl, n9, _, b9⟩
      have hsm := RefW.same_w _ 256 gc _ _ 256 gc9 _ w9 (N8.out.below b9) n9
      rw [decide_eq_true rfl] at hsm
      have B9 := hid (B8.out.trans (b9.mono B8.out.size))
      have S9 := hid (S8.out.below b9)
      clear hfl n9 b9 N8 B8 S8
      go_wp2_with fail
      refine hsm.mono ?_
      rintro e w10 ⟨rfl, b10⟩
      have hle10 := hle w10 (B9.out.trans (b10.mono B9.out.size))
      have S10 := hid (S9.out.below b10)
      clear hsm b10 S9 B9 hle
      go_wp2_with fail
      refine hle10.mono ?_
      rintro e w11 ⟨rfl, b11⟩
      have S11 := hid (S10.out.below b11)
      clear hle10 b11 S10
      go_wp2_with fail
      go_loopw [15] (fun iv wr => ∃ i : Nat, k + 1 ≤ i ∧ i ≤ 149 ∧ iv = .int .i64 (i : Int) ∧ St w1 a u q R (Crc.pad l) i wr) (fun iv _ => 149 - (intOf iv).toNat)
      case atStart => exact ⟨k + 1, by omega, by omega, by go_num, S11.out⟩
      case round =>
        clear S11
        obtain ⟨i, hi, hi2, rfl, hS⟩ := hrel
        have HS := hid hS
        by_cases hlt : i < 149
        · have hput := hS.put hlt RO.out none 0 0 [] (Nums.nil _ _) (by intro x hx; simp at hx) (by decide)
          clear hS
          go_wp2_with fail
          refine hput.mono ?_
          rintro e w7 ⟨rfl, S7⟩
          have S8 := hid S7
          clear hput S7 HS
          go_wp2_with fail
          go_roundw
          case rel => exact ⟨i + 1, by omega, by omega, by go_num, S8.out⟩
          case measure => simp [intOf]; omega
        · obtain rfl : i = 149 := by omega
          obtain ⟨E, A7, D7, R7, C7, B7⟩ := hS
          have hfu := put_full bs _ _ _ _ _ a u q _ none 0 0 [] wr A7 (Nums.nil _ _) (by decide) (by rw [D7.blocks, first_300]; show 150 ≤ 150 + 149 ∧ 150 + 149 < 300; omega) (by rw [D7.blocks]; exact hA_full) ((Ev.of_bs HBs.out _ (by decide)).below B7)
          have A7' := hid A7
          have D7' := hid D7
          have C7' := hid C7
          have B7' := hid B7
          clear A7 R7 C7 B7 HS D7 hi hi2 hlt
          go_wp2_with fail
          refine hfu.mono ?_
          rintro e w8 ⟨⟨x, hx, rfl⟩, b8⟩
          have HX := hid hx
          have b9 := b8.trans ((Below.refl w8.heap.size w8).alloc (Nat.le_refl _) (.cells #[.int .i64 0, .int .u32 0] 31) |>.mono b8.size)
          have A9 := hid (A7'.out.below b9)
          have B9 := hid (B7'.out.trans (b9.mono B7'.out.size))
          have C9 := hid (show cells2 R (.int .i64 150) (.int .u32 (Crc.sum (Crc.pad l) : Nat)) (w8.alloc (.cells #[.int .i64 0, .int .u32 0] 31)) from (b9.block _ (Array.getElem?_eq_some_iff.1 C7'.out).1).trans C7'.out)
          have hdo := done_w _ _ _ _ _ a u q _ _ A9.out
          clear hfu b8 b9 A7' B7' C7' hx
          go_wp2_with fail
          refine hdo.mono ?_
          rintro e w10 ⟨rfl, A10, T10⟩
          have LO9 := A9.out.own_lo
          have RL := (Array.getElem?_eq_some_iff.1 C9.out).1
          have C10 : cells2 R (.int .i64 150) (.int .u32 (Crc.sum (Crc.pad l) : Nat)) w10 := T10.cells C9.out (fun e => RO.out (by rw [List.mem_singleton.1 e]; simp))
          have B10 := B9.out.trans (T10.below B9.out.size (fun x hx => by rw [List.mem_singleton.1 hx]; exact A9.out.loa))
          have L10 := HL.out.below B10
          have RO2 : R ∉ aown (w1.heap.size + 5) (mp w1.heap.size) a u (w8.alloc (.cells #[.int .i64 0, .int .u32 0] 31)).heap.size := fun e => by
            rcases List.mem_cons.1 e with e | e
            · exact RO.out (by rw [e]; simp)
            rcases List.mem_cons.1 e with e | e
            · exact RO.out (by rw [e]; simp)
            rcases List.mem_cons.1 e with e | e
            · omega
            · exact RO.out (own_sub e)
          generalize (w8.alloc (.cells #[.int .i64 0, .int .u32 0] 31)).heap.size = q' at *
          have hput := put_w _ _ _ _ _ a u q' hD 150 a0 n cap l w10 A10 L10 LB.out hn (by decide) (by rw [D7'.out.calls]; decide) D7'.out.fuse D7'.out.down (by rw [D7'.out.blocks, first_300]; decide) (by rw [D7'.out.blocks]; exact hD_next)
          unfold Put at hput
          simp only [Int.cast_ofNat_Int] at hput
          have LO10 := hid A10.own_lo
          have HC10 := hid C10
          have HB10 := hid B10
          clear hdo T10 A9 C9 B9 LO9 RL C10 B10 L10 A10
          go_wp2_with fail
          refine hput.mono ?_
          rintro e w11 ⟨rfl, A11, T11⟩
          have b12 := (Below.refl w11.heap.size w11).alloc (Nat.le_refl _) (.cells #[.int .i64 150, .int .u32 (Crc.sum (Crc.pad l) : Nat)] 31)
          obtain ⟨y0, y1⟩ := Mem.new2 w11 (.int .i64 150) (.int .u32 (Crc.sum (Crc.pad l) : Nat)) 31
          have C11 : cells2 R (.int .i64 150) (.int .u32 (Crc.sum (Crc.pad l) : Nat)) w11 := T11.cells HC10.out RO2
          obtain ⟨x0, x1, _, _⟩ := RootW.blk_c ((b12.block _ (Array.getElem?_eq_some_iff.1 C11).1).trans C11)
          have B12 := hid (HB10.out.trans ((T11.below HB10.out.size LO10.out).trans (b12.mono (Nat.le_trans HB10.out.size T11.size))))
          have A12 := A11.below b12
          have hle := fun w' (hb : Below _ _ w') => left_w _ _ _ _ _ a u q' _ w' (A12.below hb) (by rw [hD_put.1]; decide) (by rw [hD_put.2]; decide)
          rw [show ((E.put 150 (Crc.pad l)).blocks) = 300 from D7'.out.blocks, datas_300, hD_put.1, hD_put.2] at hle
          have his := is_w bs _ (HBs.out.below B12.out) 4 x HX.out 105
          clear hput T11 A11 b12 C11 A12 HC10 HB10 LO10
          go_wp2_with fail
          refine his.mono ?_
          rintro e w13 ⟨rfl, b13⟩
          have hle13 := hle _ b13
          replace x0 := kept b13 x0
          replace y0 := kept b13 y0
          have B13 := hid (B12.out.trans (b13.mono B12.out.size))
          clear his b13 hle B12 x1 y1
          go_wp2_with fail
          refine hle13.mono ?_
          rintro e w14 ⟨rfl, b14⟩
          have B14 := B13.out.trans (b14.mono B13.out.size)
          clear hle13 b14 B13
          go_wp2_with fail
          go_ret
          exact ⟨rfl, HB1.out.trans (B14.mono HB1.out.size)⟩
theorem walk (a0 : Option Addr) (len0 cap0 : Nat) (z0 : List Int) (a1 : Int) (w : World) (hE : Err.All w gl) (w0 : IsRow .u8 w a0 len0 cap0 z0) (w1 : (Lit.int .i64 a1).wf = true) :
    Calls Tryd.prog 3 #[.slice a0 len0 cap0, .int .i64 a1] w fun e w' => e = .returned (.bool true) ∧ Below w.heap.size w w' := by
  obtain ⟨l, hl, hx⟩ := nums_of rfl w0
  obtain ⟨bs, hB⟩ := bs_of hE
  by_cases h : 256 < len0
  · exact over a0 len0 cap0 l a1 bs w hB hl h
  · exact done a0 len0 cap0 l a1 bs w hB hl hx (by omega) (int_of w1)
end Go.Proofs.YtjecnjgngahmfaaDoor.blobHeld
