/- The walk of PairLost. -/
import Derived.Test.YtjecnjgngahmfaaDoorPairHalf
import Derived.Test.YtjecnjgngahmfaaDoorPairFirst
import Derived.Test.YtjecnjgngahmfaaDoorNumWalk
namespace Go.Proofs.YtjecnjgngahmfaaDoor.pairLost
open Go Go.RowKit Go.Maps Go.Proofs.YtjecnjgngahmfaaDoor.Mem Go.Proofs.YtjecnjgngahmfaaDoor.MapsW Go.Proofs.YtjecnjgngahmfaaDoor.SeeW Go.Proofs.YtjecnjgngahmfaaDoor.DevW Go.Proofs.YtjecnjgngahmfaaDoor.PairW
set_option linter.unusedVariables false
set_option maxRecDepth 100000

theorem over (bs : List Addr) (a0 : Option Addr) (len0 cap0 : Nat) (a1 a2 a3 : Int) (w : World) (hB : Bs w bs) (hn : 256 < len0) :
    Calls Tryd.prog 7 #[.slice a0 len0 cap0, .int .i64 a1, .int .u32 a2, .int .i64 a3] w fun e w' => e = .returned (.bool true) ∧ Below w.heap.size w w' := by
  go_enter Tryd.func7, Tryd.ntmps7
  go_wp2_with fail
  refine (first_w bs _ (Fv.of hB)).mono ?_
  rintro e w1 ⟨rfl, hb1⟩
  go_wp2_with fail
  go_ret
  exact ⟨rfl, hb1⟩

theorem keepc {w w' : World} {x : Nat} {o : Obj} (hb : Below w.heap.size w w') (h : w.heap[x]? = some o) : w'.heap[x]? = some o :=
  (hb.block x (Array.getElem?_eq_some_iff.1 h).1).trans h
/-- both copies faulted -/
structure Lost (F : Dv) (P : List Nat) (i j : Int) (b c : Nat) : Prop where
  blocks : F.blocks = b
  calls : F.calls ≤ c
  bad1 : ∀ l, F.read i = some l → Crc.sum l ≠ Crc.sum P
  bad2 : ∀ l, F.read j = some l → Crc.sum l ≠ Crc.sum P
theorem lost_fail {F : Dv} {P : List Nat} {i j : Int} {b c : Nat} (h : Half F P i j b c) (hij : j ≠ i) : F.may j = true ∧ Lost (F.fail j) P i j b c := by
  have hm : F.may j = true := by unfold Dv.may; rw [h.pe, h.fa2]; rfl
  refine ⟨hm, ?_⟩
  have e : F.fail j = { F with fi := upd F.fi j true }.fault j := by unfold Dv.fail; rw [hm]; rfl
  rw [e]
  refine ⟨h.blocks, h.calls, fun l hl => ?_, fun l hl => ?_⟩
  · have hx : ({ F with fi := upd F.fi j true }.fault j).read i = F.read i := by
      show (match F.pe i with | some l => some l | none => if upd F.fi j true i then none else _) = _
      rw [upd_other _ _ hij.symm]
      rfl
    exact h.bad l (hx ▸ hl)
  · have hx := read_failed (D := { F with fi := upd F.fi j true }.fault j) (j := j) (h.pe j) (upd_same F.fi j true)
    cases hl.symm.trans hx
theorem lost_spoil {F : Dv} {P : List Nat} {i j : Int} {b c : Nat} (h : Half F P i j b c) (hij : j ≠ i) (hP : Blk P) (at_ t : Nat) (ha : at_ ≤ 252) (h0 : t ≠ 0) (ht : t < 4294967296) : F.may j = true ∧ Lost (F.spoil j at_ t) P i j b c := by
  obtain ⟨m1, m2⟩ := spoiled F j at_ t h0 (h.pe j) h.fa2
  refine ⟨m1, ?_⟩
  have hr := spoiled_read F j at_ t h0 (h.pe j) h.fa2 h.fi2
  rw [kept_of h.fl2] at hr
  have ho := spoiled_other F j i at_ t hij.symm
  refine ⟨by rw [m2]; exact h.blocks, by rw [m2]; exact h.calls, fun l hl => h.bad l (ho ▸ hl), fun l hl => ?_⟩
  cases hl.symm.trans hr
  exact Crc.turned_sum_ne hP.1 (by rw [hP.2]; omega) h0 ht
theorem Lost.read {F : Dv} {P : List Nat} {i h b c : Nat} (k : Lost F P i ((i + h : Nat) : Int) b c) (m : Nat) : readP F h m i (Crc.sum P) = (none, F, m) := by
  rw [readP_second k.bad1]
  unfold second
  cases hr : F.read ((i + h : Nat) : Int) with
  | none => rfl
  | some l => exact if_neg (k.bad2 l hr)
theorem Lost.mend {F : Dv} {P : List Nat} {i h b c : Nat} (k : Lost F P i ((i + h : Nat) : Int) b c) (m : Nat) : mendP F h m i (Crc.sum P) = (none, F, m) := by
  have h1 : right F i (Crc.sum P) = false := by
    unfold right
    cases hr : F.read i with
    | none => rfl
    | some l => exact decide_eq_false (k.bad1 l hr)
  have h2 : right F (i + h) (Crc.sum P) = false := by
    unfold right
    cases hr : F.read ((i + h : Nat) : Int) with
    | none => rfl
    | some l => exact decide_eq_false (k.bad2 l hr)
  unfold mendP
  rw [h1, h2]
/-- read by a sum -/
theorem both_read {E : Dv} {P : List Nat} {i h b c : Nat} (k : Both E P i ((i + h : Nat) : Int) b c) (m s : Nat) : readP E h m i s = (if Crc.sum P = s then some P else none, E, m) := by
  by_cases hs : Crc.sum P = s
  · rw [if_pos hs]
    exact readP_first k.read1 hs
  · rw [if_neg hs, readP_second (fun l hl => by cases hl.symm.trans k.read1; exact hs)]
    unfold second
    rw [k.swap.read1]
    exact if_neg hs

set_option maxHeartbeats 6400000 in
theorem good (bs : List Addr) (a0 : Option Addr) (len0 cap0 : Nat) (l : List Nat) (a1 a2 a3 : Int) (w : World) (hBs : Bs w bs) (hl : Nums .u8 w a0 len0 cap0 l) (hbl : Crc.Bytes l) (hn : len0 ≤ 256)
    (r1 : -9223372036854775808 ≤ a1 ∧ a1 ≤ 9223372036854775807) (r2 : 0 ≤ a2 ∧ a2 < 4294967296) (r3 : -9223372036854775808 ≤ a3 ∧ a3 ≤ 9223372036854775807) :
    Calls Tryd.prog 7 #[.slice a0 len0 cap0, .int .i64 a1, .int .u32 a2, .int .i64 a3] w fun e w' => e = .returned (.bool true) ∧ Below w.heap.size w w' := by
  have hB := Fv.of hBs
  obtain ⟨P, hP⟩ : ∃ P, P = Crc.pad l := ⟨_, rfl⟩
  have hPb : Blk P := by rw [hP]; exact pad_blk hbl (by rw [hl.len]; exact hn)
  have HP := hid hP
  clear hP
  have hh : GeoW.half 320 = 80 := by decide
  obtain ⟨n, hnn⟩ : ∃ n : Nat, a1 % 80 = n := ⟨(a1 % 80).toNat, by have := Int.emod_nonneg a1 (b := 80) (by omega); omega⟩
  have hn80 : n < 80 := by have := Int.emod_lt_of_pos a1 (b := 80) (by omega); omega
  obtain ⟨s, hs⟩ : ∃ s : Nat, a2 = s := ⟨a2.toNat, by omega⟩
  subst hs
  obtain ⟨r1, r1'⟩ := r1
  go_enter Tryd.func7, Tryd.ntmps7
  go_wp2_with fail
  refine (first_w bs _ hB).mono ?_
  rintro e w0 ⟨rfl, hb0⟩
  have hB0 := hB.below hb0
  have hl0 := hl.below hb0
  clear hl hB
  go_wp2_with fail
  refine (ses_open 320 _ (by omega) (by omega)).mono ?_
  rintro e w1 ⟨p, rfl, s1⟩
  have hl1 := hl0.below s1.b
  rw [hh] at s1
  go_wp2_with fail
  refine (NumW.number_w a1 80 _ (by decide) (by decide) r1 r1').mono ?_
  rintro e w' ⟨rfl, rfl⟩
  rw [hnn]
  go_wp2_with fail
  refine (block_w _ _ _ l _ hl1 hn).mono ?_
  rintro e w2 ⟨g2, gc2, rfl, hn2, hg2, hb2⟩
  rw [← HP.out] at hn2
  have s2 := s1.below hb2
  have hl2 := hl1.below hb2
  go_wp2_with fail
  refine (ses_write n _ gc2 P _ s2 hn80 hn2 hPb (by decide) (by decide)).mono ?_
  rintro e w3 ⟨rfl, s3, t3⟩
  have hl3 := s2.nums t3 hl2
  go_wp2_with fail
  have s4 := s3.below ((Below.refl w3.heap.size w3).alloc (Nat.le_refl _) (.cells #[.int .i64 n, .int .u32 (Crc.sum P)] 31))
  have hl4 := hl3.below ((Below.refl w3.heap.size w3).alloc (Nat.le_refl _) (.cells #[.int .i64 n, .int .u32 (Crc.sum P)] 31))
  have rc : (w3.alloc (.cells #[.int .i64 n, .int .u32 (Crc.sum P)] 31)).heap[w3.heap.size]? = some (.cells #[.int .i64 n, .int .u32 (Crc.sum P)] 31) := alloc_at rfl _
  generalize hW4 : w3.alloc (.cells #[.int .i64 n, .int .u32 (Crc.sum P)] 31) = w4 at *
  clear hW4
  have hnp : (put2 (Dv.new 320) 80 n P).np ≤ 2 := put2_np (Dv.new 320) 80 n P
  have hdp : w3.heap.size ≠ p ∧ w3.heap.size ≠ w0.heap.size + 5 := by have := s3.plt; have := s3.dlt; omega
  refine (ses_flush _ s4 (by decide) (by omega) (by show 0+1+1 < _; decide)).mono ?_
  rintro e w5 ⟨rfl, m5, s5, t5⟩
  have rc5 := s4.cells t5 rc hdp.1 hdp.2
  have hl5 := s4.nums t5 hl4
  have hE := Both.put2 (Dv.new 320) 80 n P (by decide) 320 3 rfl (by show 0 + 3 ≤ 3; decide)
  generalize (put2 (Dv.new 320) 80 n P).flush = E at *
  obtain ⟨n5, hn5⟩ : ∃ n5, n5 = 0 + 2 + 3 * (put2 (Dv.new 320) 80 n P).np := ⟨_, rfl⟩
  rw [← hn5] at s5
  have hn5' : n5 ≤ 8 := by omega
  have hji : ((n + 80 : Nat) : Int) ≠ n := by omega
  have f80 : IntKind.i64.wrap ((n : Int) + 80) = ((n + 80 : Nat) : Int) := by rw [IntKind.wrap_i64]; omega
  have rcells : w5.cell? ⟨w3.heap.size, 0, none⟩ = some (.int .i64 n) ∧ w5.cell? ⟨w3.heap.size, 1, none⟩ = some (.int .u32 (Crc.sum P)) := by
    simp [World.cell?, rc5]
  obtain ⟨rc0, rc1⟩ := rcells
  go_wp2_with fail
  have b6 : Below w5.heap.size w5 (w5.alloc (.cells #[.int .i64 n, .int .u32 s] 31)) := (Below.refl w5.heap.size w5).alloc (Nat.le_refl _) _
  have s6 := s5.below b6
  have rc6 := alloc_old (o := .cells #[.int .i64 n, .int .u32 s] 31) rc5
  have hl6 := hl5.below b6
  generalize w5.alloc (.cells #[.int .i64 n, .int .u32 s] 31) = w6 at *
  clear rc0 rc1
  have hr := ses_read (bs := bs) n s _ s6 hB0 hn80 (by omega) (Nat.lt_of_le_of_lt hE.calls (by decide)) (by decide)
  rw [both_read hE 0 s] at hr
  by_cases hs : Crc.sum P = s
  case' pos =>
    rw [if_pos hs] at hr
    refine hr.mono ?_
    rintro e w7 ⟨⟨g7, gc7, rfl, hn7⟩, s7, t7⟩
    have rc7 := s6.cells t7 rc6 hdp.1 hdp.2
    have hl7 := s6.nums t7 hl6
    have rcells : w7.cell? ⟨w3.heap.size, 0, none⟩ = some (.int .i64 n) ∧ w7.cell? ⟨w3.heap.size, 1, none⟩ = some (.int .u32 s) := by
      simp [World.cell?, rc7, hs]
    obtain ⟨rc0, rc1⟩ := rcells
    go_wp2
    go_quiet (fail)
  case' neg =>
    rw [if_neg hs] at hr
    refine hr.mono ?_
    rintro e w7 ⟨⟨aI, haI, rfl⟩, s7, t7⟩
    have rc7 := s6.cells t7 rc6 hdp.1 hdp.2
    have hl7 := s6.nums t7 hl6
    have rcells : w7.cell? ⟨w3.heap.size, 0, none⟩ = some (.int .i64 n) ∧ w7.cell? ⟨w3.heap.size, 1, none⟩ = some (.int .u32 (Crc.sum P)) := by
      simp [World.cell?, rc7]
    obtain ⟨rc0, rc1⟩ := rcells
    have hs' : (decide ((s : Int) = (Crc.sum P : Int))) = false := by rw [decide_eq_false_iff_not]; omega
    go_wp2
    go_quiet (fail)
  all_goals
    have b8 := below_drewN (Below.refl w7.heap.size w7) nq
    have s8 := s7.below b8
    have rc8 := keepc b8 rc7
    have hl8 := hl7.below b8
    clear rc0 rc1
    generalize w7.drewN nq = w8 at *
    go_wp2_with fail
    clear hs
    obtain ⟨hmay, hF⟩ := hE.fail hji
    refine (ses_fail n _ s8 (by rw [hE.blocks]; omega) (by omega)).mono ?_
    rw [hmay]
    rintro e w9 ⟨rfl, s9, t9⟩
    have rc9 := s8.cells t9 rc8 hdp.1 hdp.2
    have hl9 := s8.nums t9 hl8
    generalize E.fail n = F at *
    by_cases hw : a3.tmod 2 = 0
    case' pos =>
      go_wp2_with fail
      obtain ⟨hmay2, hL⟩ := lost_fail hF hji
      refine (ses_fail (n + 80) _ s9 (by rw [hF.blocks]; omega) (by omega)).mono ?_
      rw [hmay2]
      rintro e w10 ⟨rfl, s10, t10⟩
      generalize F.fail ((n + 80 : Nat) : Int) = G at *
    case' neg =>
      go_wp2_with fail
      obtain ⟨hmay2, hL⟩ := lost_spoil hF hji hPb 5 9 (by decide) (by decide) (by decide)
      refine (ses_spoil (n + 80) 5 9 _ s9 (by rw [hF.blocks]; omega) (by omega) (by decide) (by decide)).mono ?_
      rw [hmay2]
      rintro e w10 ⟨rfl, s10, t10⟩
      generalize F.spoil ((n + 80 : Nat) : Int) ((5 : Nat) : Int) 9 = G at *
  all_goals
    have rc10 := s9.cells t10 rc9 hdp.1 hdp.2
    have hl10 := s9.nums t10 hl9
    have rcells : w10.cell? ⟨w3.heap.size, 0, none⟩ = some (.int .i64 n) ∧ w10.cell? ⟨w3.heap.size, 1, none⟩ = some (.int .u32 (Crc.sum P)) := by
      simp [World.cell?, rc10]
    obtain ⟨rc0, rc1⟩ := rcells
    go_wp2_with fail
    have hr := ses_read (bs := bs) n (Crc.sum P) _ s10 hB0 hn80 (by omega) (Nat.lt_of_le_of_lt hL.calls (by decide)) (by decide)
    rw [hL.read 0] at hr
    refine hr.mono ?_
    rintro e w11 ⟨⟨aI, haI, rfl⟩, s11, t11⟩
    have rc11 := s10.cells t11 rc10 hdp.1 hdp.2
    have hl11 := s10.nums t11 hl10
    clear rc0 rc1 hr
    have rcells : w11.cell? ⟨w3.heap.size, 0, none⟩ = some (.int .i64 n) ∧ w11.cell? ⟨w3.heap.size, 1, none⟩ = some (.int .u32 (Crc.sum P)) := by
      simp [World.cell?, rc11]
    obtain ⟨rc0, rc1⟩ := rcells
    go_wp2_with fail
    have hm := ses_mend (bs := bs) n (Crc.sum P) _ s11 hB0 hn80 (by omega) (Nat.lt_of_le_of_lt hL.calls (by decide)) (by decide)
    rw [hL.mend 0] at hm
    refine hm.mono ?_
    rintro e w12 ⟨⟨aJ, haJ, rfl⟩, s12, t12⟩
    obtain rfl : aJ = aI := Option.some.inj (haJ.symm.trans haI)
    have hl12 := s11.nums t12 hl11
    clear rc0 rc1 hm
    go_wp2_with fail
    refine (block_w _ _ _ l _ hl12 hn).mono ?_
    rintro e w13 ⟨g13, gc13, rfl, hn13, hg13, hb13⟩
    have s13 := s12.below hb13
    go_wp2_with fail
    refine (write_none bs _ _ _ _ _ _ _ _ 80 _ _ s13.k (s13.bs hB0) (by decide) (fits_nat (by decide))).mono ?_
    rintro e w14 ⟨aR, haR, rfl, hb14⟩
    have s14 := s13.below hb14
    go_wp2_with fail
    have s15 := s14.below ((Below.refl w14.heap.size w14).alloc (Nat.le_refl _) (.cells #[.int .i64 0, .int .u32 0] 31))
    generalize w14.alloc (.cells #[.int .i64 0, .int .u32 0] 31) = w15 at *
    refine (read_bad bs _ _ _ _ _ _ _ _ (-1) 0 _ s15.k (s15.bs hB0) (by decide) (by unfold Fits; decide)).mono ?_
    rintro e w16 ⟨aS, haS, rfl, hb16⟩
    obtain rfl : aS = aR := Option.some.inj (haS.symm.trans haR)
    have s16 := s15.below hb16
    have q16 := hBs.below (hb0.trans (s16.b.mono hb0.size))
    go_wp2_with fail
    refine (is_w bs _ q16 6 _ haI 107).mono ?_
    rintro e w17 ⟨rfl, hb17⟩
    have s17 := s16.below hb17
    have q17 := q16.below hb17
    go_wp2_with fail
    refine (is_w bs _ q17 6 _ haI 107).mono ?_
    rintro e w18 ⟨rfl, hb18⟩
    have s18 := s17.below hb18
    have q18 := q17.below hb18
    go_wp2_with fail
    refine (is_w bs _ q18 2 _ haR 103).mono ?_
    rintro e w19 ⟨rfl, hb19⟩
    have s19 := s18.below hb19
    have q19 := q18.below hb19
    go_wp2_with fail
    refine (is_w bs _ q19 2 _ haR 103).mono ?_
    rintro e w20 ⟨rfl, hb20⟩
    have s20 := s19.below hb20
    go_wp2_with fail
    go_ret
    exact ⟨rfl, hb0.trans (s20.b.mono hb0.size)⟩

theorem walk (a0 : Option Addr) (len0 cap0 : Nat) (z0 : List Int) (a1 a2 a3 : Int) (w : World) (hE : Err.All w gl) (w0 : IsRow .u8 w a0 len0 cap0 z0) (w1 : (Lit.int .i64 a1).wf = true) (w2 : (Lit.int .u32 a2).wf = true) (w3 : (Lit.int .i64 a3).wf = true) :
    Calls Tryd.prog 7 #[.slice a0 len0 cap0, .int .i64 a1, .int .u32 a2, .int .i64 a3] w fun e w' => e = .returned (.bool true) ∧ Below w.heap.size w w' := by
  obtain ⟨l, hl, hx⟩ := nums_of rfl w0
  obtain ⟨bs, hB⟩ := bs_of hE
  by_cases h : 256 < len0
  · exact over bs a0 len0 cap0 a1 a2 a3 w hB h
  · have q2 := nat_of rfl w2
    exact good bs a0 len0 cap0 l a1 a2 a3 w hB hl hx (by omega) (int_of w1) ⟨q2.1, by have := q2.2; simp [IntKind.bits] at this; omega⟩ (int_of w3)
end Go.Proofs.YtjecnjgngahmfaaDoor.pairLost
