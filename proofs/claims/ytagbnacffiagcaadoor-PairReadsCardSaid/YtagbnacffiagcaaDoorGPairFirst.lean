/- The chapter's example on pairs (5). -/
import Derived.Test.YtagbnacffiagcaaDoorGPairSes
namespace Go.Proofs.YtagbnacffiagcaaDoor.PairG
open Go Go.RowKit Go.Maps Go.Proofs.YtagbnacffiagcaaDoor.Mem Go.Proofs.YtagbnacffiagcaaDoor.MapsW Go.Proofs.YtagbnacffiagcaaDoor.SeeW Go.Proofs.YtagbnacffiagcaaDoor.DevG Go.Proofs.YtagbnacffiagcaaDoor.BlobW
set_option linter.unusedVariables false
set_option maxRecDepth 100000

theorem first_plain (P : List Nat) (hP : Blk P) (E : Dv) (hE : E = (put2 (Dv.new 400) 100 3 P).flush) : E.may 3 = true ∧ ∃ D', readP (E.spoil 3 0 1) 100 0 3 (Crc.sum P) = (some P, D', 1) := by
  subst hE
  obtain ⟨a1, a2, a3, a4⟩ := flushed (Dv.new 400) 100 3 P (by decide) 3 (.inl rfl)
  obtain ⟨b1, b2, b3, b4⟩ := flushed (Dv.new 400) 100 3 P (by decide) 103 (.inr rfl)
  refine ⟨(spoiled _ 3 0 1 (by show 0 ≤ (3 : Int) ∧ (3 : Int) < ((400 : Nat) : Int); decide) (by decide) (by decide) a1 a3).1, ?_⟩
  have h1 := spoiled_read _ 3 0 1 (by show 0 ≤ (3 : Int) ∧ (3 : Int) < ((400 : Nat) : Int); decide) (by decide) (by decide) a1 a3 a4
  rw [kept_of a2] at h1
  have h2 : ((put2 (Dv.new 400) 100 3 P).flush.spoil 3 0 1).read ((3 + 100 : Nat) : Int) = some P := by
    rw [spoiled_other _ 3 _ 0 1 (by decide)]
    exact (read_flushed (j := 103) b1 b4).trans (congrArg some (kept_of b2))
  have hne : Crc.sum (Crc.turned P 0 1) ≠ Crc.sum P := Crc.turned_sum_ne hP.1 (p := 0) (by have := hP.2; omega) (by decide) (by decide)
  rw [readP_second (i := 3) (fun l hl => by
    have : some l = some (Crc.turned P 0 1) := hl.symm.trans h1
    cases this
    exact hne)]
  unfold second
  rw [h2]
  exact ⟨_, if_pos rfl⟩

set_option maxHeartbeats 3200000 in
theorem first_w (bs : List Addr) (w : World) (hB : Ev w w.heap.size bs five) : Calls Tryd.prog 9 #[] w fun e w' => e = .returned (.bool true) ∧ Below w.heap.size w w' := by
  obtain ⟨P, hP⟩ : ∃ P, P = Crc.pad [7] := ⟨_, rfl⟩
  have hPb : Blk P := by rw [hP]; exact pad_blk (by intro x hx; simp at hx; subst hx; decide) (by decide)
  have HP := hid hP
  clear hP
  have hh : GeoW.half 400 = 100 := by decide
  go_enter Tryd.func9, Tryd.ntmps9
  go_wp2_with fail
  refine (ses_open 400 _ (by omega) (by omega)).mono ?_
  rintro e w1 ⟨p, rfl, s1⟩
  rw [hh] at s1
  go_wp2_with fail
  refine (block_w _ 1 1 [7] _ (new1 w1 7) (by decide)).mono ?_
  rintro e w2 ⟨g2, gc2, rfl, hn2, hg2, hb2⟩
  rw [← HP.out] at hn2
  have s2 := (s1.below ((Below.refl _ w1).alloc (Nat.le_refl _) (.cells #[.int .u8 ((7 : Nat) : Int)] 5))).below hb2
  go_wp2_with fail
  refine (ses_write 3 _ gc2 P _ s2 (by decide) hn2 hPb (by decide) (by decide)).mono ?_
  rintro e w3 ⟨rfl, s3, t3⟩
  go_wp2_with fail
  have s4 := s3.below ((Below.refl w3.heap.size w3).alloc (Nat.le_refl _) (.cells #[.int .i64 3, .int .u32 (Crc.sum P)] 32))
  have rc : (w3.alloc (.cells #[.int .i64 3, .int .u32 (Crc.sum P)] 32)).heap[w3.heap.size]? = some (.cells #[.int .i64 3, .int .u32 (Crc.sum P)] 32) := alloc_at rfl _
  generalize hW4 : w3.alloc (.cells #[.int .i64 3, .int .u32 (Crc.sum P)] 32) = w4 at *
  clear hW4
  have hnp : (put2 (Dv.new 400) 100 3 P).np ≤ 2 := put2_np (Dv.new 400) 100 3 P
  have hdp : w3.heap.size ≠ p ∧ w3.heap.size ≠ w.heap.size + 5 := by have := s3.plt; have := s3.dlt; omega
  refine (ses_flush _ s4 (by decide) (by omega) (by show 0+1+1 < _; decide)).mono ?_
  rintro e w5 ⟨rfl, m5, s5, t5⟩
  have rc5 := s4.cells t5 rc hdp.1 hdp.2
  obtain ⟨hmay, D', hread⟩ := first_plain P hPb _ rfl
  generalize hE : (put2 (Dv.new 400) 100 3 P).flush = E at *
  have hEb : E.blocks = 400 := by rw [← hE]; rfl
  have hEc : E.calls ≤ 3 := by rw [← hE]; show 0+1+1+1 ≤ 3; decide
  clear hE
  go_wp2_with fail
  refine (ses_spoil 3 0 1 _ s5 (by omega) (by omega) (by decide) (by decide)).mono ?_
  rintro e w6 ⟨rfl, s6, t6⟩
  have rc6 := s5.cells t6 rc5 hdp.1 hdp.2
  rw [show (E.may ((3 : Nat) : Int) && decide ((1 : Nat) ≠ 0)) = true by rw [show ((3 : Nat) : Int) = 3 from rfl, hmay]; rfl]
  have rcells : w6.cell? ⟨w3.heap.size, 0, none⟩ = some (.int .i64 3) ∧ w6.cell? ⟨w3.heap.size, 1, none⟩ = some (.int .u32 (Crc.sum P)) := by
    simp [World.cell?, rc6]
  obtain ⟨rc0, rc1⟩ := rcells
  have hcl : (E.spoil 3 0 1).calls ≤ 3 := by unfold Dv.spoil; split <;> exact hEc
  go_wp2_with fail
  have hr := ses_read (bs := bs) 3 (Crc.sum P) _ s6 hB (by decide) (by omega) (Nat.lt_of_le_of_lt hcl (by decide)) (by decide)
  have hread' : readP (E.spoil ((3 : Nat) : Int) ((0 : Nat) : Int) 1) 100 0 3 (Crc.sum P) = (some P, D', 1) := hread
  rw [hread'] at hr
  refine hr.mono ?_
  rintro e w7 ⟨⟨g7, gc7, rfl, hn7⟩, s7, t7⟩
  go_wp2_with fail
  refine (block_w _ 1 1 [7] _ (new1 w7 7) (by decide)).mono ?_
  rintro e w8 ⟨g8, gc8, rfl, hn8, hg8, hb8⟩
  rw [← HP.out] at hn8
  have b8 : Below w7.heap.size w7 w8 := ((Below.refl _ w7).alloc (Nat.le_refl _) _).trans (hb8.mono (by simp))
  have s8 := s7.below b8
  have hn7' := hn7.below b8
  go_wp2_with fail
  refine (RefW.same_w _ 256 gc7 P _ 256 gc8 P _ hn7' hn8).mono ?_
  rintro e w9 ⟨rfl, hb9⟩
  have s9 := s8.below hb9
  go_wp2_with fail
  refine (mended_w _ _ _ _ _ _ _ _ _ s9.k).mono ?_
  rintro e w' ⟨rfl, rfl⟩
  go_wp2_with fail
  go_ret
  exact ⟨rfl, s9.b⟩
end Go.Proofs.YtagbnacffiagcaaDoor.PairG
