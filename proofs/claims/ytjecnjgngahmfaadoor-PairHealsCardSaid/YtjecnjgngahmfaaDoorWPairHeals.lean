/- The walk of PairHeals. -/
import Derived.Test.YtjecnjgngahmfaaDoorPairHalf
import Derived.Test.YtjecnjgngahmfaaDoorPairFirst
import Derived.Test.YtjecnjgngahmfaaDoorNumWalk
namespace Go.Proofs.YtjecnjgngahmfaaDoor.pairHeals
open Go Go.RowKit Go.Maps Go.Proofs.YtjecnjgngahmfaaDoor.Mem Go.Proofs.YtjecnjgngahmfaaDoor.MapsW Go.Proofs.YtjecnjgngahmfaaDoor.SeeW Go.Proofs.YtjecnjgngahmfaaDoor.DevW Go.Proofs.YtjecnjgngahmfaaDoor.PairW
set_option linter.unusedVariables false
set_option maxRecDepth 100000

theorem geo_half (w : World) : (Instr.field 67 (.agg #[.int .i64 320, .int .i64 80]) 1).run Tryd.prog w = .ok (.int .i64 80) w := by kernel_rfl
theorem over (bs : List Addr) (a0 : Option Addr) (len0 cap0 : Nat) (a1 a2 a3 a4 a5 : Int) (a6 : Bool) (w : World) (hB : Fv w bs) (hn : 256 < len0) :
    Calls Tryd.prog 8 #[.slice a0 len0 cap0, .int .i64 a1, .int .i64 a2, .int .i64 a3, .int .u32 a4, .int .u32 a5, .bool a6] w fun e w' => e = .returned (.bool true) ∧ Below w.heap.size w w' := by
  go_enter Tryd.func8, Tryd.ntmps8
  go_wp2_with fail
  refine (first_w bs _ hB).mono ?_
  rintro e w1 ⟨rfl, hb1⟩
  go_wp2_with fail
  go_ret
  exact ⟨rfl, hb1⟩

set_option maxHeartbeats 6400000 in
theorem good (bs : List Addr) (a0 : Option Addr) (len0 cap0 : Nat) (l : List Nat) (a1 a2 a3 a4 a5 : Int) (a6 : Bool) (w : World) (hB : Fv w bs) (hl : Nums .u8 w a0 len0 cap0 l) (hbl : Crc.Bytes l) (hn : len0 ≤ 256)
    (r1 : -9223372036854775808 ≤ a1 ∧ a1 ≤ 9223372036854775807) (r2 : -9223372036854775808 ≤ a2 ∧ a2 ≤ 9223372036854775807) (r3 : -9223372036854775808 ≤ a3 ∧ a3 ≤ 9223372036854775807) (r4 : 0 ≤ a4 ∧ a4 < 4294967296) (r5 : 0 ≤ a5 ∧ a5 < 4294967296) :
    Calls Tryd.prog 8 #[.slice a0 len0 cap0, .int .i64 a1, .int .i64 a2, .int .i64 a3, .int .u32 a4, .int .u32 a5, .bool a6] w fun e w' => e = .returned (.bool true) ∧ Below w.heap.size w w' := by
  obtain ⟨P, hP⟩ : ∃ P, P = Crc.pad l := ⟨_, rfl⟩
  have hPb : Blk P := by rw [hP]; exact pad_blk hbl (by rw [hl.len]; exact hn)
  have HP := hid hP
  clear hP
  have hh : GeoW.half 320 = 80 := by decide
  obtain ⟨n, hnn⟩ : ∃ n : Nat, a1 % 80 = n := ⟨(a1 % 80).toNat, by have := Int.emod_nonneg a1 (b := 80) (by omega); omega⟩
  have hn80 : n < 80 := by have := Int.emod_lt_of_pos a1 (b := 80) (by omega); omega
  obtain ⟨at_, hat⟩ : ∃ n : Nat, a2 % 253 = n := ⟨(a2 % 253).toNat, by have := Int.emod_nonneg a2 (b := 253) (by omega); omega⟩
  have hat2 : at_ ≤ 252 := by have := Int.emod_lt_of_pos a2 (b := 253) (by omega); omega
  obtain ⟨ag, hag⟩ : ∃ n : Nat, a3 % 253 = n := ⟨(a3 % 253).toNat, by have := Int.emod_nonneg a3 (b := 253) (by omega); omega⟩
  have hag2 : ag ≤ 252 := by have := Int.emod_lt_of_pos a3 (b := 253) (by omega); omega
  obtain ⟨r1, r1'⟩ := r1
  obtain ⟨r2, r2'⟩ := r2
  obtain ⟨r3, r3'⟩ := r3
  go_enter Tryd.func8, Tryd.ntmps8
  go_wp2_with fail
  refine (first_w bs _ hB).mono ?_
  rintro e w0 ⟨rfl, hb0⟩
  have hB0 := hB.below hb0
  have hl0 := hl.below hb0
  clear hl hB
  go_wp2_with fail
  refine (ses_open 320 _ (by omega) (by omega)).mono ?_
  rintro e w1 ⟨p, rfl, s1⟩
  have hl1 := hl0.below s1.b
  rw [hh] at s1
  go_wp2_with fail
  refine (NumW.number_w a1 80 _ (by decide) (by decide) r1 r1').mono ?_
  rintro e w' ⟨rfl, rfl⟩
  rw [hnn]
  go_wp2_with fail
  refine (block_w _ _ _ l _ hl1 hn).mono ?_
  rintro e w2 ⟨g2, gc2, rfl, hn2, hg2, hb2⟩
  rw [← HP.out] at hn2
  have s2 := s1.below hb2
  have hl2 := hl1.below hb2
  go_wp2_with fail
  refine (ses_write n _ gc2 P _ s2 hn80 hn2 hPb (by decide) (by decide)).mono ?_
  rintro e w3 ⟨rfl, s3, t3⟩
  have hl3 := s2.nums t3 hl2
  go_wp2_with fail
  have s4 := s3.below ((Below.refl w3.heap.size w3).alloc (Nat.le_refl _) (.cells #[.int .i64 n, .int .u32 (Crc.sum P)] 31))
  have hl4 := hl3.below ((Below.refl w3.heap.size w3).alloc (Nat.le_refl _) (.cells #[.int .i64 n, .int .u32 (Crc.sum P)] 31))
  have rc : (w3.alloc (.cells #[.int .i64 n, .int .u32 (Crc.sum P)] 31)).heap[w3.heap.size]? = some (.cells #[.int .i64 n, .int .u32 (Crc.sum P)] 31) := alloc_at rfl _
  generalize hW4 : w3.alloc (.cells #[.int .i64 n, .int .u32 (Crc.sum P)] 31) = w4 at *
  clear hW4
  have hnp : (put2 (Dv.new 320) 80 n P).np ≤ 2 := put2_np (Dv.new 320) 80 n P
  have hdp : w3.heap.size ≠ p ∧ w3.heap.size ≠ w0.heap.size + 5 := by have := s3.plt; have := s3.dlt; omega
  refine (ses_flush _ s4 (by decide) (by omega) (by show 0+1+1 < _; decide)).mono ?_
  rintro e w5 ⟨rfl, m5, s5, t5⟩
  have rc5 := s4.cells t5 rc hdp.1 hdp.2
  have hl5 := s4.nums t5 hl4
  have hE := Both.put2 (Dv.new 320) 80 n P (by decide) 320 3 rfl (by show 0 + 3 ≤ 3; decide)
  generalize (put2 (Dv.new 320) 80 n P).flush = E at *
  obtain ⟨n5, hn5⟩ : ∃ n5, n5 = 0 + 2 + 3 * (put2 (Dv.new 320) 80 n P).np := ⟨_, rfl⟩
  rw [← hn5] at s5
  have hn5' : n5 ≤ 8 := by omega
  have hji : ((n + 80 : Nat) : Int) ≠ n := by omega
  obtain ⟨t1, ht1, ht1', ht1''⟩ := or_u32 a4 1 (by decide) (by decide)
  obtain ⟨t2, ht2, ht2', ht2''⟩ := or_u32 a5 1 (by decide) (by decide)
  replace ht1 : bits .or .u32 a4 1 = (t1 : Int) := ht1
  replace ht2 : bits .or .u32 a5 1 = (t2 : Int) := ht2
  have f80 : IntKind.i64.wrap ((n : Int) + 80) = ((n + 80 : Nat) : Int) := by rw [IntKind.wrap_i64]; omega
  have ff : Fits (n : Int) := fits_nat (by omega)
  have ff2 : Fits ((n + 80 : Nat) : Int) := fits_nat (by omega)
  cases a6
  case' true =>
    go_wp2_with fail
    obtain ⟨hmay, hF⟩ := hE.fail hji
    refine (ses_fail n _ s5 (by rw [hE.blocks]; omega) (by omega)).mono ?_
    rw [hmay]
    rintro e w6 ⟨rfl, s6, t6⟩
    generalize E.fail n = F at *
  case' false =>
    go_wp2_with fail
    refine (NumW.number_w a2 253 _ (by decide) (by decide) r2 r2').mono ?_
    rintro e w' ⟨rfl, rfl⟩
    rw [hat]
    go_wp2_with fail
    obtain ⟨hmay, hF⟩ := hE.spoil hji hPb at_ t1 hat2 ht1' ht1''
    refine (ses_spoil n at_ t1 _ s5 (by rw [hE.blocks]; omega) (by omega) hat2 ht1'').mono ?_
    rw [hmay, decide_eq_true ht1']
    rintro e w6 ⟨rfl, s6, t6⟩
    generalize E.spoil n at_ t1 = F at *
  all_goals
    have rc6 := s5.cells t6 rc5 hdp.1 hdp.2
    have hl6 := s5.nums t6 hl5
    have rcells : w6.cell? ⟨w3.heap.size, 0, none⟩ = some (.int .i64 n) ∧ w6.cell? ⟨w3.heap.size, 1, none⟩ = some (.int .u32 (Crc.sum P)) := by
      simp [World.cell?, rc6]
    obtain ⟨rc0, rc1⟩ := rcells
    go_wp2_with fail
    have hr := ses_read (bs := bs) n (Crc.sum P) _ s6 hB0 hn80 (by omega) (Nat.lt_of_le_of_lt hF.calls (by decide)) (by decide)
    rw [hF.first 0] at hr
    refine hr.mono ?_
    rintro e w7 ⟨⟨g7, gc7, rfl, hn7⟩, s7, t7⟩
    have rc7 := s6.cells t7 rc6 hdp.1 hdp.2
    have hl7 := s6.nums t7 hl6
    clear rc0 rc1 hr
    go_wp2_with fail
    refine (block_w _ _ _ l _ hl7 hn).mono ?_
    rintro e w8 ⟨g8, gc8, rfl, hn8, hg8, hb8⟩
    rw [← HP.out] at hn8
    have s8 := s7.below hb8
    have hl8 := hl7.below hb8
    have rc8 := hb8.block _ (Array.getElem?_eq_some_iff.1 rc7).1 ▸ rc7
    have hn7' := hn7.below hb8
    go_wp2_with fail
    refine (RefW.same_w _ 256 gc7 P _ 256 gc8 P _ hn7' hn8).mono ?_
    rintro e w9 ⟨rfl, hb9⟩
    have s9 := s8.below hb9
    go_wp2_with fail
    refine (ses_flush _ s9 (by omega) (by have := put_np F n P; have := hF.np; omega) (by show F.calls + 1 < _; have := hF.calls; omega)).mono ?_
    rintro e w10 ⟨rfl, m10, s10, t10⟩
    have hG := hF.mended hji
    obtain ⟨n10, hn10⟩ : ∃ n10, n10 = n5 + 3 + 1 + 3 * (F.put n P).np := ⟨_, rfl⟩
    have hn10' : n10 ≤ 15 := by have := put_np F n P; have := hF.np; omega
    rw [← hn10] at s10
    have rc9 := hb9.block _ (Array.getElem?_eq_some_iff.1 rc8).1 ▸ rc8
    have rc10 := s9.cells t10 rc9 hdp.1 hdp.2
    have hl10 := s9.nums t10 (hl8.below hb9)
    generalize (F.put n P).flush = G at *
    go_wp2_with fail
    refine (DevW.faulted_w _ _ _ _ G n _ s10.k.dev ff).mono ?_
    rintro e w' ⟨rfl, rfl⟩
    rw [hG.fa1]
    go_wp2_with fail
    refine (NumW.number_w a3 253 _ (by decide) (by decide) r3 r3').mono ?_
    rintro e w' ⟨rfl, rfl⟩
    rw [hag]
    go_wp2_with fail
    obtain ⟨hmay2, hH⟩ := hG.swap.spoil hji.symm hPb ag t2 hag2 ht2' ht2''
    refine (ses_spoil (n + 80) ag t2 _ s10 (by rw [hG.blocks]; omega) (by omega) hag2 ht2'').mono ?_
    rintro e w11 ⟨rfl, s11, t11⟩
    have rc11 := s10.cells t11 rc10 hdp.1 hdp.2
    have hl11 := s10.nums t11 hl10
    generalize G.spoil ((n + 80 : Nat) : Int) ag t2 = H at *
    have rcells : w11.cell? ⟨w3.heap.size, 0, none⟩ = some (.int .i64 n) ∧ w11.cell? ⟨w3.heap.size, 1, none⟩ = some (.int .u32 (Crc.sum P)) := by
      simp [World.cell?, rc11]
    obtain ⟨rc0, rc1⟩ := rcells
    go_wp2_with fail
    have hr := ses_read (bs := bs) n (Crc.sum P) _ s11 hB0 hn80 (by omega) (Nat.lt_of_le_of_lt hH.calls (by decide)) (by decide)
    rw [hH.second 1] at hr
    refine hr.mono ?_
    rintro e w12 ⟨⟨g12, gc12, rfl, hn12⟩, s12, t12⟩
    have rc12 := s11.cells t12 rc11 hdp.1 hdp.2
    have hl12 := s11.nums t12 hl11
    clear rc0 rc1 hr
    have rcells : w12.cell? ⟨w3.heap.size, 0, none⟩ = some (.int .i64 n) ∧ w12.cell? ⟨w3.heap.size, 1, none⟩ = some (.int .u32 (Crc.sum P)) := by
      simp [World.cell?, rc12]
    obtain ⟨rc0, rc1⟩ := rcells
    go_wp2_with fail
    have hm := ses_mend (bs := bs) n (Crc.sum P) _ s12 hB0 hn80 (by omega) (Nat.lt_of_le_of_lt hH.calls (by decide)) (by decide)
    have hmp : mendP H 80 1 n (Crc.sum P) = (some 1, H.put ((n + 80 : Nat) : Int) P, 2) := by
      unfold mendP
      rw [hH.right2, hH.right1, hH.read2]
      rfl
    rw [hmp] at hm
    refine hm.mono ?_
    rintro e w13 ⟨rfl, s13, t13⟩
    have hn13 := s12.nums t13 hn12
    have hl13 := s12.nums t13 hl12
    clear rc0 rc1 hm
    go_wp2_with fail
    refine (block_w _ _ _ l _ hl13 hn).mono ?_
    rintro e w14 ⟨g14, gc14, rfl, hn14, hg14, hb14⟩
    rw [← HP.out] at hn14
    have s14 := s13.below hb14
    have hn13' := hn13.below hb14
    go_wp2_with fail
    refine (RefW.same_w _ 256 gc12 P _ 256 gc14 P _ hn13' hn14).mono ?_
    rintro e w15 ⟨rfl, hb15⟩
    have s15 := s14.below hb15
    go_wp2_with fail
    refine (ses_flush _ s15 (by omega) (by have := put_np H ((n + 80 : Nat) : Int) P; have := hH.np; omega) (by show H.calls + 1 < _; have := hH.calls; omega)).mono ?_
    rintro e w16 ⟨rfl, m16, s16, t16⟩
    have hK := hH.mended hji.symm
    generalize (H.put ((n + 80 : Nat) : Int) P).flush = K at *
    go_wp2_with fail
    refine (DevW.faulted_w _ _ _ _ K _ _ s16.k.dev ff2).mono ?_
    rintro e w' ⟨rfl, rfl⟩
    rw [hK.fa1]
    go_wp2_with fail
    refine (mended_w _ _ _ _ _ _ _ _ _ s16.k).mono ?_
    rintro e w' ⟨rfl, rfl⟩
    go_wp2_with fail
    refine (geo_w _ _ _ _ _ _ _ _ _ s16.k).mono ?_
    rw [hK.blocks]
    rintro e w17 ⟨rfl, hb17⟩
    have s17 := s16.below hb17
    have hfld := geo_half w17
    go_wp2_with fail
    go_ret
    exact ⟨rfl, hb0.trans (s17.b.mono hb0.size)⟩

theorem walk (a0 : Option Addr) (len0 cap0 : Nat) (z0 : List Int) (a1 a2 a3 a4 a5 : Int) (a6 : Bool) (w : World) (hE : Err.All w [4, 0, 1, 3, 2]) (w0 : IsRow .u8 w a0 len0 cap0 z0) (w1 : (Lit.int .i64 a1).wf = true) (w2 : (Lit.int .i64 a2).wf = true) (w3 : (Lit.int .i64 a3).wf = true) (w4 : (Lit.int .u32 a4).wf = true) (w5 : (Lit.int .u32 a5).wf = true) :
    Calls Tryd.prog 8 #[.slice a0 len0 cap0, .int .i64 a1, .int .i64 a2, .int .i64 a3, .int .u32 a4, .int .u32 a5, .bool a6] w fun e w' => e = .returned (.bool true) ∧ Below w.heap.size w w' := by
  obtain ⟨l, hl, hx⟩ := nums_of rfl w0
  obtain ⟨x1, h1⟩ := hE.at 0 _ rfl
  obtain ⟨x2, h2⟩ := hE.at 1 _ rfl
  obtain ⟨x3, h3⟩ := hE.at 2 _ rfl
  obtain ⟨x4, h4⟩ := hE.at 3 _ rfl
  obtain ⟨x5, h5⟩ := hE.at 4 _ rfl
  obtain ⟨bs, hB⟩ := Fv.make h1 h2 h3 h4 h5
  by_cases h : 256 < len0
  · exact over bs a0 len0 cap0 a1 a2 a3 a4 a5 a6 w hB h
  · have q4 := nat_of rfl w4
    have q5 := nat_of rfl w5
    exact good bs a0 len0 cap0 l a1 a2 a3 a4 a5 a6 w hB hl hx (by omega) (int_of w1) (int_of w2) (int_of w3) ⟨q4.1, by have := q4.2; simp [IntKind.bits] at this; omega⟩ ⟨q5.1, by have := q5.2; simp [IntKind.bits] at this; omega⟩
end Go.Proofs.YtjecnjgngahmfaaDoor.pairHeals
