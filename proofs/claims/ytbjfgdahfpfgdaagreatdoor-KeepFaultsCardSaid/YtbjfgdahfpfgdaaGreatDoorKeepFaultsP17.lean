/- A block's bytes, filled up; what is copied; The walk of a store's write. -/
import Derived.Test.YtbjfgdahfpfgdaaGreatDoorKeepFaultsP1
import Derived.Test.YtbjfgdahfpfgdaaGreatDoorKeepFaultsP7
import Derived.Laws.CopyOwn
import Derived.Test.YtbjfgdahfpfgdaaGreatDoorKeepFaultsP12
import Derived.Test.YtbjfgdahfpfgdaaGreatDoorKeepFaultsP13
import Derived.Test.YtbjfgdahfpfgdaaGreatDoorKeepFaultsP16
import Derived.Deep.RegionLaw
import Derived.Deep.CutRange
namespace Go.Proofs.YtbjfgdahfpfgdaaGreatDoor.BlobW
open Go Go.RowKit Go.Proofs.YtbjfgdahfpfgdaaGreatDoor.Mem
set_option linter.unusedVariables false
set_option maxRecDepth 100000

theorem own_heap {w : World} {base g n : Nat} {l : List Nat} (h : OwnN w base 5 .u8 g n n l) : w.heap[g]? = some (.cells (nums .u8 l).toArray 5 (0, 0)) := by
  have hl := h.len
  rcases h.2 with ⟨e, _⟩ | ⟨g', c, cur, e, _, hg, _, _, hcs, htk⟩
  · cases e
  · cases e
    rw [hg]
    congr 2
    apply Array.ext'
    rw [List.take_of_length_le (by rw [Array.length_toList, hcs]; omega)] at htk
    exact htk
theorem heap_own {w : World} {base g : Nat} {l : List Nat} (hg : w.heap[g]? = some (.cells (nums .u8 l).toArray 5 (0, 0))) (hb : base ≤ g) (hl : l.length = 256) : OwnN w base 5 .u8 g 256 256 l :=
  ⟨by simp [nums, hl], .inr ⟨g, 256, (nums .u8 l).toArray, rfl, hb, hg, Nat.le_refl _, by unfold maxLen; omega, by simp [nums, hl], by rw [List.take_of_length_le (by simp [nums, hl])]⟩⟩
theorem splice_nums (l m : List Nat) (i : Nat) : splice (nums .u8 l) i (nums .u8 m) = nums .u8 (splice l i m) := by
  simp [splice, nums, List.map_take, List.map_drop]

theorem src {w : World} {a : Option Addr} {n c : Nat} {l : List Nat} (h : Nums .u8 w a n c l) (hn : 0 < n) : ∃ ad, a = some ad ∧ ∀ j v, (nums .u8 l)[j]? = some v → w.cell? (ad.add j) = some v := by
  obtain ⟨b0, o0, rfl, _⟩ := h.at (j := 0) (by rw [h.len]; exact hn)
  exact ⟨_, rfl, fun j v hj => by rw [Addr.add_lit]; exact Row.cell h hj⟩
end Go.Proofs.YtbjfgdahfpfgdaaGreatDoor.BlobW

namespace Go.Proofs.YtbjfgdahfpfgdaaGreatDoor.PgW
open Go Go.RowKit Go.Maps Go.Proofs.YtbjfgdahfpfgdaaGreatDoor.Mem Go.Proofs.YtbjfgdahfpfgdaaGreatDoor.MapsW Go.Proofs.YtbjfgdahfpfgdaaGreatDoor.SeeW Go.Proofs.YtbjfgdahfpfgdaaGreatDoor.DevG Go.Proofs.YtbjfgdahfpfgdaaGreatDoor.PairG Go.Proofs.YtbjfgdahfpfgdaaGreatDoor.RefsW Go.Proofs.YtbjfgdahfpfgdaaGreatDoor.PgP Go.Proofs.YtbjfgdahfpfgdaaGreatDoor.RootW Go.Proofs.YtbjfgdahfpfgdaaGreatDoor.BlobW
set_option linter.unusedVariables false
set_option maxRecDepth 100000

/-- what a store's write gives -/
def Wrote (bs : List Addr) (w : World) (lo n nl B : Nat) (m : Mp) (I : Si) (S : St) (X tb tc a : Nat) (vn vp vf : Value) (x : Lay) (r : Option Nat × Dv) (e : Ending) (w' : World) : Prop :=
  (match r.1 with
    | none => e = .returned (.tuple #[Rv ((S.ep + 1 : Nat) : Int) (some ⟨tb, 0, none⟩) 7 tc, .nilIface]) ∧ LW w' B nl X tb tc a vn vp vf { x with at_ := sumsP S.now x.at_ x.pg, tabs := sumsT (sumsP S.now x.at_ x.pg) x.tabs x.nt }
    | some q => ∃ ad u ra rn rc, bs[q]? = some ad ∧ e = .returned (.tuple #[Rv u ra rn rc, ev ad])) ∧
  ∃ p', (p' = m.p ∨ w.heap.size ≤ p') ∧ SAt w' lo n { m with p := p' } r.2 I S ∧ Turn (a :: tb :: own I.d m) w w'
theorem fin_away {w5 w6 : World} {lo B n nl R : Nat} {m m' : Mp} {D : Dv} {I : Si} {S : St} {X tb tc a : Nat} {vn vp vf : Value} {x : Lay} {v0 v1 : Value} {t : TypeId} (k : SAt w5 lo n m' D I S) (l : LW w5 B nl X tb tc a vn vp vf x) (hsep : (∀ y ∈ I.own m, y < B) ∧ I.tb < B ∧ ∀ b o, I.ra = some ⟨b, o, none⟩ → b < B) (hout : (∀ b ∈ X :: a :: tb :: (blk vn ++ blk vp), b < R) ∧ B ≤ R)
    (hR : w5.heap[R]? = some (.cells #[v0, v1] t)) (hv : ∀ z, v0 ≠ .int .u8 z) (hown : ∀ y ∈ own I.d m', y ∈ own I.d m ∨ R < y) (ht : Turn [R] w5 w6) : SAt w6 lo n m' D I S ∧ LW w6 B nl X tb tc a vn vp vf x := by
  obtain ⟨s1, s2, s3⟩ := hsep
  obtain ⟨o1, o2⟩ := hout
  refine ⟨k.away ht (fun y hy => ?_) (fun y hy => .inr ?_), l.turn' ht (fun y hy hm => ?_)⟩
  · rw [List.mem_singleton.1 hy]
    refine ⟨fun hm => ?_, by omega, fun b o e => by have := s3 b o e; omega⟩
    rcases List.mem_cons.1 hm with e | hm
    · have := s1 I.s (by simp); omega
    · rcases List.mem_cons.1 hm with e | hm
      · have := s1 I.p (by simp); omega
      · rcases List.mem_cons.1 hm with e | hm
        · have := s1 I.a (by simp); omega
        · rcases List.mem_cons.1 hm with e | hm
          · have := s1 I.o (by simp); omega
          · rcases hown R hm with h | h
            · have := s1 R (by simp only [List.mem_cons]; exact .inr (.inr (.inr (.inr (List.mem_cons.1 h))))); omega
            · omega
  · rw [List.mem_singleton.1 hy]
    exact ⟨v0, by simp [World.cell?, hR], hv⟩
  · rw [List.mem_singleton.1 hy] at hm
    have := o1 _ hm
    omega
theorem pw_call (bs : List Addr) (w0 : World) (lo B : Nat) (m : Mp) (I : Si) (S : St) (X tb tc a : Nat) (vn vp vf : Value) (w3 : World) (n nl : Nat) (D : Dv) (x : Lay) (h : WI bs w0 lo B m I S X tb tc a vn vp vf w3 n nl D x) (g cap f : Nat) (l : List Nat) (hl : Nums .u8 w3 (some ⟨g, 0, none⟩) 256 cap l) (hb : Crc.Bytes l) (hf : f < I.H) (hn : n < 800000) (hc : D.calls < 900000) (hz : D.fuse ≤ 1000000) :
    ∀ w', Below w3.heap.size w3 w' → Calls Tryz.prog 90 #[ptr I.p, .int .i64 (f : Int), .slice (some ⟨g, 0, none⟩) 256 cap] w' fun e w4 =>
      (match (wpair D I.H f l).1 with
        | none => e = .returned (.tuple #[PairG.Rf (f : Int) (Crc.sum l), .nilIface])
        | some q => ∃ ad, bs[q]? = some ad ∧ e = .returned (.tuple #[PairG.Rf 0 0, ev ad])) ∧
      WI bs w0 lo B m I S X tb tc a vn vp vf w4 (n + 2) nl (wpair D I.H f l).2 x ∧ (∀ r o, w0.heap.size ≤ r → w'.heap[r]? = some o → w4.heap[r]? = some o) ∧ w'.heap.size ≤ w4.heap.size ∧ w0.heap.size < w3.heap.size := by
  intro w' hb'
  have h' := h.below hb'
  refine (pwrite_w bs lo I.d n m D I.p I.H I.c f _ cap l w' h'.at_.pr (h'.ev.sub (by decide)) hf (hl.below hb') hb (by omega) hc hz).mono ?_
  rintro e w4 ⟨h1, h2, h3⟩
  refine ⟨h1, h'.wrote h2 h3 (by omega), fun r o hr ho => h3.cells ho fun hm => ?_, h3.size, (Array.getElem?_eq_some_iff.1 h.cell).1⟩
  have := (h.dsub r hm).1
  have := h.out.2
  have := (Array.getElem?_eq_some_iff.1 h.cell).1
  omega
set_option maxHeartbeats 3200000 in
theorem swrite_w (bs : List Addr) (lo n nl B : Nat) (m : Mp) (D : Dv) (I : Si) (S : St) (X tb tc a : Nat) (vn vp vf : Value) (x : Lay) (w : World)
    (k : SAt w lo n m D I S) (hL : LW w B nl X tb tc a vn vp vf x) (hB : Ev w lo bs seven)
    (hsep : (∀ y ∈ I.own m, y < B) ∧ I.tb < B ∧ ∀ b o, I.ra = some ⟨b, o, none⟩ → b < B) (hlB : lo ≤ B)
    (hP : ∀ p ∈ x.pg, p < 256 ∧ ∃ c l, S.now (p : Int) = some (c :: l) ∧ l.length + 1 ≤ 248 ∧ Crc.Bytes (c :: l) ∧ ∃ f : Nat, f < I.H ∧ (tref x.at_ p).1 = (f : Int))
    (hT : ∀ t ∈ x.nt, t < 7 ∧ ∃ f : Nat, f < I.H ∧ (x.tabs.getD t (0, 0)).1 = (f : Int))
    (hok : RefsOk x.at_) (hokT : ∀ r ∈ x.tabs, 0 ≤ r.1 ∧ r.1 ≤ 6000 ∧ r.2 < 4294967296) (hNb : ∀ p : Nat, ((S.now (p : Int)).getD []).length ≤ 255 ∧ Crc.Bytes ((S.now (p : Int)).getD []))
    (hlp : x.pg.length ≤ 256) (hlt7 : x.nt.length ≤ 7) (hl7 : x.tabs.length = 7)
    (hn : n + 8 * (x.pg.length + x.nt.length) + 3 * D.np + 8 < 700000) (hnp : D.np < 9000) (hnl : nl < 700000) (hc : D.calls < 800000) (hz : D.fuse ≤ 1000000) (hep : S.ep < 1000000) (hb1 : 300 ≤ D.blocks) :
    Calls Tryz.prog 50 #[ptr I.s, ptr X] w (Wrote bs w lo (n + 8 * (x.pg.length + x.nt.length) + 3 * D.np + 8) (nl + 300) B m I S X tb tc a vn vp vf x (Dv.commit D I.H (S.ep + 1) (writes S x) (behind S x).tabs)) := by
  obtain ⟨na, nc, rfl, _⟩ := ownsRow_slice hL.nt
  obtain ⟨pa, pc, rfl, _⟩ := ownsRow_slice hL.pg
  have hrest : ∀ b ∈ X :: a :: tb :: (blk (.slice na x.nt.length nc) ++ blk (.slice pa x.pg.length pc)), b < w.heap.size := by
    intro b hb
    simp only [List.mem_cons, List.mem_append] at hb
    rcases hb with rfl | rfl | rfl | hb | hb
    · exact hL.lt
    · obtain ⟨k1, hk1⟩ := hL.at_
      obtain ⟨es, ck, h1⟩ := hk1.block
      exact (Array.getElem?_eq_some_iff.1 h1).1
    · exact (own_tab hL.tabs).2
    · exact (blk_ge hL.nt b hb).2
    · exact (blk_ge hL.pg b hb).2
  have bx := (Below.refl w.heap.size w).alloc (Nat.le_refl _) (.cells #[.int .i64 0, .slice none 0 0] 89)
  have hr0 := heap_alloc_new w (.cells #[.int .i64 0, .slice none 0 0] 89)
  have hW0 : WI bs w lo B m I S X tb tc a (.slice na x.nt.length nc) (.slice pa x.pg.length pc) vf (w.alloc (.cells #[.int .i64 0, .slice none 0 0] 89)) n nl D x :=
    ⟨k.below bx, hL.below bx, hB.below bx, Turn.of_below bx, hr0, hsep, hlB, hrest, by have := hL.b0.1; have := hL.lt; omega⟩
  clear k hL hB hsep hlB hrest bx hr0
  have HIN := hid (fun (D : Dv) (i : Nat) (l : List Nat) => wpair_in D I.H i l)
  obtain ⟨W, hW⟩ : ∃ W, W = wrP S.now x := ⟨_, rfl⟩
  have hWl : W.length = x.pg.length := by rw [hW]; simp [wrP]
  have HWG := hid (show ∀ j (h : j < x.pg.length), W.take (j + 1) = W.take j ++ [((tref x.at_ x.pg[j]).1.toNat, pblk ((S.now ((x.pg[j] : Nat) : Int)).getD []))] from fun j h => by
    rw [List.take_succ_eq_append_getElem (by rw [hWl]; exact h)]; simp [hW, wrP])
  have HW := hid hW
  have HX := hid (fun (w1 : World) (n1 nl1 : Nat) (D1 : Dv) (x1 : Lay) (h : WI bs w lo B m I S X tb tc a (.slice na x.nt.length nc) (.slice pa x.pg.length pc) vf w1 n1 nl1 D1 x1) => And.intro h.at_.c h.lw.c)
  have HP := hid hP
  have HT := hid hT
  have HW0 := hid hW0
  obtain ⟨q0, q1, q2, q3, q4, q5⟩ := (HX.out _ _ _ _ _ hW0).2
  have hDl : D.blocks = D.blocks ∧ D.np ≤ D.np ∧ D.calls ≤ D.calls ∧ D.fuse ≤ D.fuse := by omega
  clear hW hP hT hW0 hWl q5 q0 q1 q2
  go_enter Tryz.func50, Tryz.ntmps50
  go_wp2_with fail
  go_loopw [22] (fun iv wr => ∃ (j : Nat) (Dj : Dv), j ≤ x.pg.length ∧ iv = .int .i64 j ∧ wall D I.H (W.take j) = (none, Dj) ∧ (Dj.blocks = D.blocks ∧ Dj.np ≤ D.np + 2 * j ∧ Dj.calls ≤ D.calls + 2 * j ∧ Dj.fuse ≤ D.fuse) ∧ WI bs w lo B m I S X tb tc a (.slice na x.nt.length nc) (.slice pa x.pg.length pc) vf wr (n + 2 * j) (nl + j) Dj { x with at_ := sumsP S.now x.at_ (x.pg.take j) }) (fun iv _ => x.pg.length - (RowKit.intOf iv).toNat)
  case atStart => exact ⟨0, D, by omega, rfl, rfl, ⟨rfl, by omega, by omega, by omega⟩, by simpa [sumsP] using HW0.out⟩
  case round =>
    obtain ⟨j, Dj, hj, rfl, hwj, ⟨e1, e2, e3, e4⟩, hI⟩ := hrel
    by_cases hlt : j < x.pg.length
    · have hlI : (j : Int) < (x.pg.length : Int) := by omega
      obtain ⟨p1, c, l, hN, hl1, hlb, f, hf, hfa⟩ := HP.out _ (List.getElem_mem hlt)
      have hWG := HWG.out j hlt
      obtain ⟨pa', pc', ee, hnp⟩ := ownsRow_slice hI.lw.pg
      obtain ⟨rfl, rfl⟩ : pa = pa' ∧ pc = pc' := by cases ee; exact ⟨rfl, rfl⟩
      have hnp' : Nums .i64 wr pa x.pg.length pc x.pg := hnp
      obtain ⟨b0, o0, hpa, hcp⟩ := hnp'.at hlt
      have hfa2 : (tref (sumsP S.now x.at_ (x.pg.take j)) x.pg[j]).1 = (f : Int) := (sumsP_fst S.now _ _ _).trans hfa
      have hsn : sumsP S.now x.at_ (x.pg.take (j + 1)) = sumP S.now (sumsP S.now x.at_ (x.pg.take j)) x.pg[j] := by rw [List.take_succ_eq_append_getElem hlt, sumsP_snoc]
      obtain ⟨Fj, hFj⟩ : ∃ F, F = sumsP S.now x.at_ (x.pg.take j) := ⟨_, rfl⟩
      rw [← hFj] at hI hfa2 hsn
      have hne : decide (x.pg.length = 0) = false := decide_eq_false (by omega)
      have hpc : j < pc := by have := hnp'.bound; omega
      generalize hp : x.pg[j] = p at *
      subst hpa
      have HSN := hid hsn
      have HWJ := hid hwj
      have HWG2 := hid hWG
      have HD := hid (And.intro e1 (And.intro e2 (And.intro e3 e4)))
      have HI := hid hI
      have hfp : Fits (p : Int) := by unfold Fits; omega
      have hRsz : w.heap.size < wr.heap.size := (Array.getElem?_eq_some_iff.1 hI.cell).1
      obtain ⟨q, hq⟩ : ∃ q, q = l.length + 1 := ⟨_, rfl⟩
      have hwq : IntKind.u8.wrap (q : Int) = q := by rw [IntKind.wrap_u8]; omega
      have HQ := hid hq
      have hll : (c :: l).length = q := by rw [List.length_cons]; omega
      have HLL := hid hll
      clear hll
      clear hI hwj hWG hsn e1 e2 e3 e4 hFj hnp hnp' hp
      have HFA := hid hfa2
      go_upto_region 6 with (at_make; go_must (refine wpList_mkn RefW.elU8 rfl _ _ rfl wr.heap.size _ _ _ _ 256 rfl rfl rfl rfl (by decide) (by decide) (Nat.le_refl _) ?_); intro w1 own1 hg1; rw [RefW.made_nums] at own1; have b1 := below_growns hg1 (Nat.le_refl _); have hI1 := HI.out.below b1; have c6 := hI1.at_.c.2.2.2.2.2.2.1; obtain ⟨ko, ho⟩ := hI1.at_.now; obtain ⟨g1, cg1, lk1, n1, hb1⟩ := ho.look_some hfp hN; rw [← hq] at lk1; have y0 : ∃ y, w1.cell? ⟨wr.heap.size, 0, none⟩ = some y := ⟨_, OwnN.cell own1 (j := 0) (by simp)⟩; obtain ⟨y, y0⟩ := y0; have f0 : w1.frozen? ⟨wr.heap.size, 0, none⟩ = false := World.ownsRow.frozenAt own1 0; have HO1 := hid own1; have HB1 := hid b1; clear own1 hg1 b1 hI1 ho n1 hb1 hq)
      have B2 := HB1.out.setCell (p := ⟨wr.heap.size, 0, none⟩) (Nat.le_refl _) (.int .u8 (q : Int))
      have H1 := own_heap (OwnN.set HO1.out 0 q)
      generalize w1.setCell ⟨wr.heap.size, 0, none⟩ (.int .u8 (q : Int)) = w2 at *
      have hI2 := HI.out.below B2
      have c6' := hI2.at_.c.2.2.2.2.2.2.1
      have c6d : w2.drew.cell? ⟨I.s, 6, none⟩ = some (.map (some I.o)) := c6'
      obtain ⟨ko, ho⟩ := hI2.at_.now
      obtain ⟨g2, cg2, lk2, n2, hb2⟩ := ho.look_some hfp hN
      obtain ⟨ko', ho'⟩ := (hI2.below (Below.refl _ _).drew).at_.now
      obtain ⟨g3, cg3, lk3, n3, hb3⟩ := ho'.look_some hfp hN
      rw [← HQ.out] at lk2 lk3 n2 n3
      have HC2 := hid (src n2 (by have := HQ.out; omega))
      have HC3 := hid (src n3 (by have := HQ.out; omega))
      have HB2 := hid B2
      have HI2 := hid hI2
      clear B2 hI2 ho ho' n2 n3 hb2 hb3 lk1 c6 y0 f0 HO1 HB1
      go_cut [] from 37 to 45 (fun wx => wx.heap[wr.heap.size]? = some (.cells (nums .u8 (pblk (c :: l))).toArray 5 (0, 0)) ∧ Below wr.heap.size wr wx)
      case first =>
        go_region_law (refine step_copy_splice rfl (.tmp 38) (.tmp 44) _ _ rfl 5 Tryz.underlying35 (by kernel_rfl) _ (some ⟨g3, 0, none⟩) 255 255 q cg3 rfl rfl wr.heap.size 1 (nums .u8 ((List.replicate 256 0).set 0 q)) 5 H1 (nums .u8 (c :: l)) (by rw [nums_length, HLL.out]; exact (Nat.min_eq_left (by have := HQ.out; omega)).symm) (fun _ => ⟨rfl, HC3.out⟩) (by rw [nums_length, nums_length, HLL.out]; simp; have := HQ.out; omega) (nums_oneCell _ _) wr.heap.size wr HB2.out.drew (Nat.le_refl _) ?_; intro w3 H3 hb3)
        all_goals
          go_wp2_with fail
          go_meet
          replace H3 := H3.out
          rw [splice_nums, splice_page (by rw [List.length_cons]; omega), ← HLL.out] at H3
          exact ⟨H3, hb3⟩
      case rest =>
        obtain ⟨H3, b3⟩ := hcut
        generalize wc = w3 at *
        have hI3 := HI.out.below b3
        have n3 : Nums .u8 w3 (some ⟨wr.heap.size, 0, none⟩) 256 256 (pblk (c :: l)) := (heap_own H3 (Nat.le_refl _) (pblk_length (by rw [List.length_cons]; omega))).nums
        obtain ⟨e1, e2, e3, e4⟩ := HD.out
        have hcall := pw_call bs w lo B m I S X tb tc a _ _ _ w3 (n + 2 * j) (nl + j) Dj _ hI3 wr.heap.size 256 f (pblk (c :: l)) n3 (pblk_bytes (by rw [List.length_cons]; omega) hlb) hf (by omega) (by omega) (by omega)
        have HI3 := hid hI3
        have HR3 := hid (Array.getElem?_eq_some_iff.1 hI3.cell).1
        have hlk : ∀ w', Below w3.heap.size w3 w' → (Instr.lookup 90 (.map (some a)) (.int .i64 (p : Int)) false).run Tryz.prog w' = .ok (refV (tref Fj p)) w' := fun w' hb => by
          obtain ⟨k1, hk1⟩ := (HI3.out.below hb).lw.at_
          exact hk1.look hfp
        have hbd := (Below.refl w3.heap.size w3).drew
        have hbe := hbd.alloc (Nat.le_refl _) (.cells #[.int .i64 0, .int .u32 0] 111)
        have lkd := hlk _ hbd
        have lke := hlk _ hbe
        have lkf : (Instr.lookup 90 (.map (some a)) (.int .i64 (p : Int)) false).run Tryz.prog (w3.alloc (.cells #[.int .i64 0, .int .u32 0] 111)).drew = .ok (refV (tref Fj p)) (w3.alloc (.cells #[.int .i64 0, .int .u32 0] 111)).drew := lke
        have d1 := (HX.out _ _ _ _ _ (HI3.out.below hbd)).1.2.1
        have d2 := (HX.out _ _ _ _ _ (HI3.out.below hbd)).2.2.1
        have gc1 : (w3.alloc (.cells #[.int .i64 0, .int .u32 0] 111)).cell? ⟨I.s, 1, none⟩ = some (ptr I.p) := (HX.out _ _ _ _ _ (HI3.out.below hbe)).1.2.1
        have gc2 : (w3.alloc (.cells #[.int .i64 0, .int .u32 0] 111)).cell? ⟨X, 1, none⟩ = some (.map (some a)) := (HX.out _ _ _ _ _ (HI3.out.below hbe)).2.2.1
        have hsum := HIN.out Dj f (pblk (c :: l))
        have hwS := wall_snoc (D := D) f (pblk (c :: l)) HWJ.out
        obtain ⟨s, hs⟩ : ∃ s, s = Crc.sum (pblk (c :: l)) := ⟨_, rfl⟩
        rw [← hs] at hcall
        have hsu : sumP S.now Fj p = upd Fj (p : Int) (some ((f : Int), Crc.sum (pblk (c :: l)))) := by unfold sumP; rw [hfa2, hN]; rfl
        rw [← hs] at hsu
        have HSU := hid hsu
        have hwn : wall D I.H (W.take (j + 1)) = wpair Dj I.H f (pblk (c :: l)) := by rw [HWG2.out, hfa, hN]; exact hwS
        generalize wpair Dj I.H f (pblk (c :: l)) = Rw at *
        obtain ⟨rr, D2⟩ := Rw
        generalize tref Fj p = r0 at *
        obtain ⟨r1, r2⟩ := r0
        simp only at hfa2
        subst hfa2
        have hfl : ∀ w, (Instr.field 111 (refV ((f : Int), r2)) 0).run Tryz.prog w = .ok (.int .i64 (f : Int)) w := fun w => by kernel_rfl
        have HS := hid hs
        have HWS := hid hwn
        clear hI3 n3 e1 e2 e3 e4 hlk hs hwS hwn hsu H3 lk2 lk3 c6' c6d
        cases rr with
        | none =>
          go_upto_region 7 with fail
          go_cut [9, 10] from 46 to 61 (fun v9 v10 wx => v10 = .nilIface ∧ ∃ r, v9 = ptr r ∧ w.heap.size < r ∧ wx.heap[r]? = some (.cells #[.int .i64 (f : Int), .int .u32 (s : Int)] 111) ∧ WI bs w lo B m I S X tb tc a (.slice na x.nt.length nc) (.slice (some ⟨b0, o0, none⟩) x.pg.length pc) vf wx (n + 2 * j + 2) (nl + j) D2 { x with at_ := Fj })
          case first =>
            --DEV0
            go_region_law (go_simp; go_at_call 90; refine (hcall _ (by first | exact hbd | exact hbe)).mono ?_; rintro e w4 ⟨rfl, hI4, hk4, hz4, hz0⟩; first | (have r4 := hk4 w3.heap.size _ (Nat.le_of_lt HR3.out) (heap_alloc_new _ _); have u0 : w4.cell? ⟨w3.heap.size, 0, none⟩ = some (.int .i64 0) := (by simp [World.cell?, r4]); have u1 : w4.cell? ⟨w3.heap.size, 1, none⟩ = some (.int .u32 0) := (by simp [World.cell?, r4]); have u2 : w4.frozen? ⟨w3.heap.size, 0, none⟩ = false := (by simp [World.frozen?, r4]); have u3 : w4.frozen? ⟨w3.heap.size, 1, none⟩ = false := (by simp [World.frozen?, r4])) | skip)
            all_goals
              go_wp2_with fail
              go_meet
              first
                | exact ⟨rfl, w3.heap.size, rfl, by have := HR3.out; omega, by simp [World.setCell, Array.getElem?_modify, r4], hI4.far (r := w3.heap.size) (by have := HR3.out; omega) ⟨_, u0, fun z e => by cases e⟩ ((Turn.setCell w4 _ _ _ (by simp)).then (Turn.setCell _ _ _ _ (by simp)))⟩
                | exact ⟨rfl, w4.heap.size, rfl, by have := HR3.out; have hz5 : w3.heap.size ≤ w4.heap.size := hz4; omega, heap_alloc_new _ _, hI4.below ((Below.refl _ _).alloc (Nat.le_refl _) _)⟩
            --DEV1
          case rest =>
            obtain ⟨rfl, r, rfl, hr, hcell, hI4⟩ := hcut
            generalize wc = w4 at *
            have hI4d := hI4.below (Below.refl _ _).drew
            obtain ⟨k4, hk4⟩ := hI4d.lw.at_
            obtain ⟨w5, hrun, hr5, hg5⟩ := hk4.store (by omega) hfp ((f : Int), s)
            have hrun' : (Instr.mapUpdate 90 (.map (some a)) (.int .i64 (p : Int)) (.agg #[.int .i64 (f : Int), .int .u32 (s : Int)])).run Tryz.prog w4.drew = .ok () w5 := hrun
            have H5 := hid (hI4d.setAt hr5 hg5)
            have x1 := (HX.out _ _ _ _ _ hI4).2.2.1
            have x1d : w4.drew.cell? ⟨X, 1, none⟩ = some (.map (some a)) := x1
            have r0 : w4.cell? ⟨r, 0, none⟩ = some (.int .i64 (f : Int)) := by simp [World.cell?, hcell]
            have r1 : w4.cell? ⟨r, 1, none⟩ = some (.int .u32 (s : Int)) := by simp [World.cell?, hcell]
            have r0d : w4.drew.cell? ⟨r, 0, none⟩ = some (.int .i64 (f : Int)) := r0
            have r1d : w4.drew.cell? ⟨r, 1, none⟩ = some (.int .u32 (s : Int)) := r1
            clear hI4d hk4 hrun hr5 hg5 hI4 hcell d1 d2 gc1 gc2 lkd lke lkf hfl hcall
            go_upto_region 10 with fail
            go_region
            all_goals
              go_wp2_with fail
              go_roundw
              case rel =>
                obtain ⟨e1, e2, e3, e4⟩ := HD.out
                simp only at hsum
                refine ⟨j + 1, D2, by omega, by go_num, HWS.out, ⟨by omega, by omega, by omega, by omega⟩, ?_⟩
                rw [HSN.out, HSU.out]
                exact H5.out
              case measure => simp [RowKit.intOf]; omega
        | some qe =>
          go_upto_region 7 with fail
          go_cut [9, 10] from 46 to 61 (fun v9 v10 wx => ∃ ad, bs[qe]? = some ad ∧ v10 = ev ad ∧ ∃ r, v9 = ptr r ∧ WI bs w lo B m I S X tb tc a (.slice na x.nt.length nc) (.slice (some ⟨b0, o0, none⟩) x.pg.length pc) vf wx (n + 2 * j + 2) (nl + j) D2 { x with at_ := Fj })
          case first =>
            --DEV0
            go_region_law (go_simp; go_at_call 90; refine (hcall _ (by first | exact hbd | exact hbe)).mono ?_; rintro e w4 ⟨⟨ad, had, rfl⟩, hI4, hk4, hz4, hz0⟩; first | (have r4 := hk4 w3.heap.size _ (Nat.le_of_lt HR3.out) (heap_alloc_new _ _); have u0 : w4.cell? ⟨w3.heap.size, 0, none⟩ = some (.int .i64 0) := (by simp [World.cell?, r4]); have u1 : w4.cell? ⟨w3.heap.size, 1, none⟩ = some (.int .u32 0) := (by simp [World.cell?, r4]); have u2 : w4.frozen? ⟨w3.heap.size, 0, none⟩ = false := (by simp [World.frozen?, r4]); have u3 : w4.frozen? ⟨w3.heap.size, 1, none⟩ = false := (by simp [World.frozen?, r4])) | skip)
            all_goals
              go_wp2_with fail
              go_meet
              first
                | exact ⟨ad, had, rfl, w3.heap.size, rfl, hI4.far (r := w3.heap.size) (by have := HR3.out; omega) ⟨_, u0, fun z e => by cases e⟩ ((Turn.setCell w4 _ _ _ (by simp)).then (Turn.setCell _ _ _ _ (by simp)))⟩
                | exact ⟨ad, had, rfl, w4.heap.size, rfl, hI4.below ((Below.refl _ _).alloc (Nat.le_refl _) _)⟩
            --DEV1
          case rest =>
            obtain ⟨ad, had, rfl, r, rfl, hI4⟩ := hcut
            generalize wc = w4 at *
            have hcell := hI4.cell
            have y0 : w4.cell? ⟨w.heap.size, 0, none⟩ = some (.int .i64 0) := by simp [World.cell?, hcell]
            have y1 : w4.cell? ⟨w.heap.size, 1, none⟩ = some (.slice none 0 0) := by simp [World.cell?, hcell]
            have y2 : w4.frozen? ⟨w.heap.size, 0, none⟩ = false := by simp [World.frozen?, hcell]
            have y3 : w4.frozen? ⟨w.heap.size, 1, none⟩ = false := by simp [World.frozen?, hcell]
            have hfin := fun (u v : Value) => hI4.fin (((Turn.setCell w4 w.heap.size 0 u (by simp)).then (Turn.setCell _ w.heap.size 1 v (by simp))))
            have HF := hid hfin
            have HCM := hid (commit_fail (ep := S.ep + 1) (T := (behind S x).tabs) HWS.out (show writes S x = W ++ wrT (sumsP S.now x.at_ x.pg) x by rw [HW.out]; rfl))
            have HAD := hid had
            clear hcell hI4 d1 d2 gc1 gc2 lkd lke lkf hfl hcall hfin had
            go_wp2_with fail
            refine bodyPost_ret (v := .tuple #[Rv 0 none 0 0, ev ad]) (by simp [results, Tryz.results50, go_sem, y0, y1]) rfl ?_
            rw [HCM.out]
            obtain ⟨f1, f2, f3⟩ := HF.out (.int .i64 0) (.slice none 0 0)
            exact ⟨⟨ad, _, _, _, _, HAD.out, rfl⟩, m.p, .inl rfl, f1.mono (by omega), f3⟩
    · obtain rfl : j = x.pg.length := by omega
      obtain ⟨F, hF⟩ : ∃ F, F = sumsP S.now x.at_ x.pg := ⟨_, rfl⟩
      rw [List.take_of_length_le (Nat.le_refl _), ← hF] at hI
      rw [List.take_of_length_le (by rw [HW.out]; simp [wrP])] at hwj
      have hFok : RefsOk F := by rw [hF]; exact sumsP_ok hNb x.pg hok
      obtain ⟨V, hV⟩ : ∃ V, V = wrT F x := ⟨_, rfl⟩
      have hVl : V.length = x.nt.length := by rw [hV]; simp [wrT]
      have HVG := hid (show ∀ i (h : i < x.nt.length), V.take (i + 1) = V.take i ++ [((x.tabs.getD x.nt[i] (0, 0)).1.toNat, tblk F x.nt[i])] from fun i h => by
        rw [List.take_succ_eq_append_getElem (by rw [hVl]; exact h)]; simp [hV, wrT])
      have HVL := hid hVl
      have hws : writes S x = W ++ V := by rw [HW.out, hV, hF]; rfl
      have hbt : (behind S x).tabs = sumsT F x.tabs x.nt := by rw [hF]; rfl
      have HWSV := hid hws
      have HBT := hid hbt
      have HWJ := hid hwj
      have HFO := hid hFok
      have HFF := hid hF
      have HD := hid (And.intro e1 (And.intro e2 (And.intro e3 e4)))
      obtain ⟨q0, q1, q2, q3, q4, q5⟩ := (HX.out _ _ _ _ _ hI).2
      have HI0 := hid hI
      clear hV hVl hws hbt hwj hFok hI hF hlt hj q5 q0 q1 q3 q4 e1 e2 e3 e4 HWG
      go_wp2_with fail
      go_loopw [78] (fun iv wq => ∃ (i : Nat) (Di : Dv), i ≤ x.nt.length ∧ iv = .int .i64 i ∧ wall Dj I.H (V.take i) = (none, Di) ∧ (Di.blocks = Dj.blocks ∧ Di.np ≤ Dj.np + 2 * i ∧ Di.calls ≤ Dj.calls + 2 * i ∧ Di.fuse ≤ Dj.fuse) ∧ WI bs w lo B m I S X tb tc a (.slice na x.nt.length nc) (.slice pa x.pg.length pc) vf wq (n + 2 * x.pg.length + 2 * i) (nl + x.pg.length) Di { x with at_ := F, tabs := sumsT F x.tabs (x.nt.take i) }) (fun iv _ => x.nt.length - (RowKit.intOf iv).toNat)
      case atStart => exact ⟨0, Dj, by omega, rfl, rfl, ⟨rfl, by omega, by omega, by omega⟩, HI0.out⟩
      case round =>
        obtain ⟨i, Di, hi, rfl, hwi, ⟨e1, e2, e3, e4⟩, hI⟩ := hrel
        by_cases hlt : i < x.nt.length
        · have hlI : (i : Int) < (x.nt.length : Int) := by omega
          obtain ⟨t7, f, hf, hfa⟩ := HT.out _ (List.getElem_mem hlt)
          have hVG := HVG.out i hlt
          obtain ⟨na', nc', ee, hnp⟩ := ownsRow_slice hI.lw.nt
          obtain ⟨rfl, rfl⟩ : na = na' ∧ nc = nc' := by cases ee; exact ⟨rfl, rfl⟩
          have hnp' : Nums .i64 wr na x.nt.length nc x.nt := hnp
          obtain ⟨b0, o0, hna, hcp⟩ := hnp'.at hlt
          have hTl : (sumsT F x.tabs (x.nt.take i)).length = 7 := (sumsT_length F _ _).trans hl7
          have hfa2 : ((sumsT F x.tabs (x.nt.take i)).getD x.nt[i] (0, 0)).1 = (f : Int) := (sumsT_fst F _ _ _).trans hfa
          have hsn : sumsT F x.tabs (x.nt.take (i + 1)) = sumT F (sumsT F x.tabs (x.nt.take i)) x.nt[i] := by rw [List.take_succ_eq_append_getElem hlt, sumsT_snoc]
          obtain ⟨Ti, hTi⟩ : ∃ T, T = sumsT F x.tabs (x.nt.take i) := ⟨_, rfl⟩
          rw [← hTi] at hI hfa2 hsn hTl
          have hne : decide (x.nt.length = 0) = false := decide_eq_false (by omega)
          have hncc : i < nc := by have := hnp'.bound; omega
          generalize ht : x.nt[i] = t at *
          subst hna
          have ht7i : ((t : Nat) : Int) < 7 := by omega
          have hst : sumT F Ti t = Ti.set t ((f : Int), Crc.sum (tblk F t)) := by unfold sumT; rw [hfa2]
          obtain ⟨s, hs⟩ : ∃ s, s = Crc.sum (tblk F t) := ⟨_, rfl⟩
          rw [← hs] at hst
          have HPG := hid (show ∀ (w' : World) (n' nl' : Nat) (D' : Dv), WI bs w lo B m I S X tb tc a (.slice (some ⟨b0, o0, none⟩) x.nt.length nc) (.slice pa x.pg.length pc) vf w' n' nl' D' { x with at_ := F, tabs := Ti } → w'.cell? ⟨I.s, 1, none⟩ = some (ptr I.p) ∧ w'.cell? ⟨X, 0, none⟩ = some (.slice (some ⟨tb, 0, none⟩) 7 tc) ∧ w'.cell? ⟨tb, t * 2, none⟩ = some (.int .i64 (f : Int)) from fun w' n' nl' D' h => by
            refine ⟨(HX.out _ _ _ _ _ h).1.2.1, (HX.out _ _ _ _ _ h).2.1, ?_⟩
            obtain ⟨b', o', e, hc, _⟩ := (own_refs h.lw.tabs).at (j := t) (by rw [hTl]; exact t7)
            cases e
            have h7 : t < Ti.length := by rw [hTl]; exact t7
            have e9 : Ti.getD t (0, 0) = Ti[t]'h7 := by simp [List.getD, h7]
            rw [e9] at hfa2
            rw [Nat.zero_add] at hc
            rw [← hfa2]
            exact hc)
          have HPH := hid (fun (w' : World) (hb : Below wr.heap.size wr w') => HPG.out w' _ _ _ (hI.below hb))
          have htab : ∀ w', Below wr.heap.size wr w' → Calls Tryz.prog 91 #[ptr X, .int .i64 (t : Int)] w' fun e w4 => ∃ g4 c4, e = .returned (.slice (some ⟨g4, 0, none⟩) 256 c4) ∧ Nums .u8 w4 (some ⟨g4, 0, none⟩) 256 c4 (tblk F t) ∧ Below wr.heap.size wr w4 ∧ Below w'.heap.size w' w4 := fun w' hb => by
            refine (table_w B _ X tb tc a _ _ _ _ t w' (hI.below hb).lw t7 HFO.out).mono ?_
            rintro e w4 ⟨⟨v, rfl, own4⟩, b4⟩
            obtain ⟨g4, c4, rfl, n4, _⟩ := row1 own4 (by decide)
            exact ⟨g4, c4, rfl, n4, below_then hb b4, b4⟩
          obtain ⟨d1, d2, d3, d4⟩ := HD.out
          have hcall := fun (w4 : World) (g4 c4 : Nat) (hb : Below wr.heap.size wr w4) (hn4 : Nums .u8 w4 (some ⟨g4, 0, none⟩) 256 c4 (tblk F t)) => pw_call bs w lo B m I S X tb tc a _ _ _ w4 (n + 2 * x.pg.length + 2 * i) (nl + x.pg.length) Di _ (hI.below hb) g4 c4 f (tblk F t) hn4 (tblk_bytes F t) hf (by omega) (by omega) (by omega)
          rw [← hs] at hcall
          have hsum := HIN.out Di f (tblk F t)
          have hwn : wall Dj I.H (V.take (i + 1)) = wpair Di I.H f (tblk F t) := by rw [hVG, hfa]; exact wall_snoc f _ hwi
          generalize wpair Di I.H f (tblk F t) = Rw at *
          obtain ⟨rr, D2⟩ := Rw
          have HWN := hid hwn
          have HSN := hid (hsn.trans hst)
          have HTI := hid hTi
          have HE := hid (And.intro e1 (And.intro e2 (And.intro e3 e4)))
          have HRZ := hid (Array.getElem?_eq_some_iff.1 hI.cell).1
          have HTL := hid hTl
          have hdr := (Below.refl wr.heap.size wr).drew
          obtain ⟨c1, c2, c3⟩ := HPH.out _ hdr
          clear hI hwn hsn hst hTi hTl hwi hVG hnp hnp' hfa hfa2 hs e1 e2 e3 e4 d1 d2 d3 d4 HI0
          cases rr with
          | none =>
            go_upto_region 15 with fail
            go_cut [13, 14] from 82 to 100 (fun v13 v14 wx => v14 = .nilIface ∧ ∃ r, v13 = ptr r ∧ w.heap.size < r ∧ wx.heap[r]? = some (.cells #[.int .i64 (f : Int), .int .u32 (s : Int)] 111) ∧ WI bs w lo B m I S X tb tc a (.slice (some ⟨b0, o0, none⟩) x.nt.length nc) (.slice pa x.pg.length pc) vf wx (n + 2 * x.pg.length + 2 * i + 2) (nl + x.pg.length) D2 { x with at_ := F, tabs := Ti })
            case first =>
              --DEV0
              go_region_held3 (fun w' => w'.cell? ⟨I.s, 1, none⟩ = some (ptr I.p) ∧ w'.cell? ⟨X, 0, none⟩ = some (.slice (some ⟨tb, 0, none⟩) 7 tc) ∧ w'.cell? ⟨tb, t * 2, none⟩ = some (.int .i64 (f : Int))) (first | exact ⟨c1, c2, c3⟩ | exact p4 | exact p5 | exact HPH.out _ (Below.drew (Below.alloc (Below.refl _ _) (Nat.le_refl _) _)) | exact HPH.out _ (Below.alloc B4 B4.size _) | exact HPG.out _ _ _ _ (hI5.far (r := wr.heap.size) HRZ.out ⟨_, u0, fun z e => by cases e⟩ ((Turn.setCell w5 _ _ _ (by simp)).then (Turn.setCell _ _ _ _ (by simp)))) | exact HPG.out _ _ _ _ (hI5.far (r := w4.heap.size) (Nat.lt_of_lt_of_le HRZ.out B4.size) ⟨_, u0, fun z e => by cases e⟩ ((Turn.setCell w5 _ _ _ (by simp)).then (Turn.setCell _ _ _ _ (by simp)))) | exact HPG.out _ _ _ _ (hI5.below ((Below.refl _ _).alloc (Nat.le_refl _) _)) | go_keep)
                (first | (go_at_call 91; refine (htab _ (by first | exact Below.drew (Below.refl _ _) | exact below_drewN (Below.refl _ _) _ | exact Below.alloc (below_drewN (Below.refl _ _) _) (Nat.le_refl _) _)).mono ?_; rintro e w4 ⟨g4, c4, rfl, n4, B4, b4⟩; have p4 := HPH.out w4 B4; first | (have r4 : w4.heap[wr.heap.size]? = some (.cells #[.int .i64 0, .int .u32 0] 111) := (b4.block _ (by simp)).trans (heap_alloc_new _ _)) | skip) | (go_at_call 90; refine (hcall w4 g4 c4 B4 n4 _ (by first | exact Below.refl _ _ | exact Below.alloc (Below.refl _ _) (Nat.le_refl _) _)).mono ?_; rintro e w5 ⟨rfl, hI5, hk5, hz5, hz0⟩; have p5 := HPG.out _ _ _ _ hI5; first | (have r5 : w5.heap[wr.heap.size]? = some (.cells #[.int .i64 0, .int .u32 0] 111) := hk5 wr.heap.size _ (Nat.le_of_lt HRZ.out) r4; have u0 : w5.cell? ⟨wr.heap.size, 0, none⟩ = some (.int .i64 0) := (by simp [World.cell?, r5]); have u1 : w5.cell? ⟨wr.heap.size, 1, none⟩ = some (.int .u32 0) := (by simp [World.cell?, r5]); have u2 : w5.frozen? ⟨wr.heap.size, 0, none⟩ = false := (by simp [World.frozen?, r5]); have u3 : w5.frozen? ⟨wr.heap.size, 1, none⟩ = false := (by simp [World.frozen?, r5])) | (have r5 : w5.heap[w4.heap.size]? = some (.cells #[.int .i64 0, .int .u32 0] 111) := hk5 w4.heap.size _ (Nat.le_trans (Nat.le_of_lt HRZ.out) B4.size) (heap_alloc_new _ _); have u0 : w5.cell? ⟨w4.heap.size, 0, none⟩ = some (.int .i64 0) := (by simp [World.cell?, r5]); have u1 : w5.cell? ⟨w4.heap.size, 1, none⟩ = some (.int .u32 0) := (by simp [World.cell?, r5]); have u2 : w5.frozen? ⟨w4.heap.size, 0, none⟩ = false := (by simp [World.frozen?, r5]); have u3 : w5.frozen? ⟨w4.heap.size, 1, none⟩ = false := (by simp [World.frozen?, r5])) | skip))
              all_goals
                go_wp2_with fail
                go_meet
                have hz6 := B4.size
                first
                  | exact ⟨rfl, wr.heap.size, rfl, HRZ.out, by simp [World.setCell, Array.getElem?_modify, r5], hI5.far (r := wr.heap.size) HRZ.out ⟨_, u0, fun z e => by cases e⟩ ((Turn.setCell w5 _ _ _ (by simp)).then (Turn.setCell _ _ _ _ (by simp)))⟩
                  | exact ⟨rfl, w4.heap.size, rfl, by have := HRZ.out; omega, by simp [World.setCell, Array.getElem?_modify, r5], hI5.far (r := w4.heap.size) (by have := HRZ.out; omega) ⟨_, u0, fun z e => by cases e⟩ ((Turn.setCell w5 _ _ _ (by simp)).then (Turn.setCell _ _ _ _ (by simp)))⟩
                  | exact ⟨rfl, w5.heap.size, rfl, by have := HRZ.out; have hz7 : w4.heap.size ≤ w5.heap.size := hz5; omega, heap_alloc_new _ _, hI5.below ((Below.refl _ _).alloc (Nat.le_refl _) _)⟩
              --DEV1
            case rest =>
              obtain ⟨rfl, r, rfl, hr, hcell, hI4⟩ := hcut
              generalize wc = w4 at *
              have x0 := (HX.out _ _ _ _ _ hI4).2.1
              have x0d : w4.drew.cell? ⟨X, 0, none⟩ = some (.slice (some ⟨tb, 0, none⟩) 7 tc) := x0
              have r0 : w4.cell? ⟨r, 0, none⟩ = some (.int .i64 (f : Int)) := by simp [World.cell?, hcell]
              have r1 : w4.cell? ⟨r, 1, none⟩ = some (.int .u32 (s : Int)) := by simp [World.cell?, hcell]
              have r0d : w4.drew.cell? ⟨r, 0, none⟩ = some (.int .i64 (f : Int)) := r0
              have r1d : w4.drew.cell? ⟨r, 1, none⟩ = some (.int .u32 (s : Int)) := r1
              obtain ⟨b', o', ee, hc0, hc1⟩ := (own_refs hI4.lw.tabs).at (j := t) (by have := HTL.out; rw [show ({ x with at_ := F, tabs := Ti } : Lay).tabs = Ti from rfl]; omega)
              cases ee
              rw [Nat.zero_add] at hc0 hc1
              have f0 : w4.frozen? ⟨tb, t * 2, none⟩ = false := World.ownsRow.frozenAt hI4.lw.tabs (t * 2)
              have f1 : w4.frozen? ⟨tb, t * 2 + 1, none⟩ = false := World.ownsRow.frozenAt hI4.lw.tabs (t * 2 + 1)
              have hI5 := hid ((hI4.setTab t ((f : Int), s)).below (Below.refl _ _).drew)
              clear hI4 hcell hcall htab c1 c2 c3
              go_upto_region 18 with fail
              go_region
              all_goals
                go_wp2_with fail
                go_roundw
                case rel =>
                  obtain ⟨e1, e2, e3, e4⟩ := HE.out
                  simp only at hsum
                  refine ⟨i + 1, D2, by omega, by go_num, HWN.out, ⟨by omega, by omega, by omega, by omega⟩, ?_⟩
                  rw [HSN.out]
                  exact hI5.out
                case measure => simp [RowKit.intOf]; omega
          | some qe =>
            go_upto_region 15 with fail
            go_cut [13, 14] from 82 to 100 (fun v13 v14 wx => ∃ ad, bs[qe]? = some ad ∧ v14 = ev ad ∧ ∃ r, v13 = ptr r ∧ WI bs w lo B m I S X tb tc a (.slice (some ⟨b0, o0, none⟩) x.nt.length nc) (.slice pa x.pg.length pc) vf wx (n + 2 * x.pg.length + 2 * i + 2) (nl + x.pg.length) D2 { x with at_ := F, tabs := Ti })
            case first =>
              --DEV0
              go_region_held3 (fun w' => w'.cell? ⟨I.s, 1, none⟩ = some (ptr I.p) ∧ w'.cell? ⟨X, 0, none⟩ = some (.slice (some ⟨tb, 0, none⟩) 7 tc) ∧ w'.cell? ⟨tb, t * 2, none⟩ = some (.int .i64 (f : Int))) (first | exact ⟨c1, c2, c3⟩ | exact p4 | exact p5 | exact HPH.out _ (Below.drew (Below.alloc (Below.refl _ _) (Nat.le_refl _) _)) | exact HPH.out _ (Below.alloc B4 B4.size _) | exact HPG.out _ _ _ _ (hI5.far (r := wr.heap.size) HRZ.out ⟨_, u0, fun z e => by cases e⟩ ((Turn.setCell w5 _ _ _ (by simp)).then (Turn.setCell _ _ _ _ (by simp)))) | exact HPG.out _ _ _ _ (hI5.far (r := w4.heap.size) (Nat.lt_of_lt_of_le HRZ.out B4.size) ⟨_, u0, fun z e => by cases e⟩ ((Turn.setCell w5 _ _ _ (by simp)).then (Turn.setCell _ _ _ _ (by simp)))) | exact HPG.out _ _ _ _ (hI5.below ((Below.refl _ _).alloc (Nat.le_refl _) _)) | go_keep)
                (first | (go_at_call 91; refine (htab _ (by first | exact Below.drew (Below.refl _ _) | exact below_drewN (Below.refl _ _) _ | exact Below.alloc (below_drewN (Below.refl _ _) _) (Nat.le_refl _) _)).mono ?_; rintro e w4 ⟨g4, c4, rfl, n4, B4, b4⟩; have p4 := HPH.out w4 B4; first | (have r4 : w4.heap[wr.heap.size]? = some (.cells #[.int .i64 0, .int .u32 0] 111) := (b4.block _ (by simp)).trans (heap_alloc_new _ _)) | skip) | (go_at_call 90; refine (hcall w4 g4 c4 B4 n4 _ (by first | exact Below.refl _ _ | exact Below.alloc (Below.refl _ _) (Nat.le_refl _) _)).mono ?_; rintro e w5 ⟨⟨ad, had, rfl⟩, hI5, hk5, hz5, hz0⟩; have p5 := HPG.out _ _ _ _ hI5; first | (have r5 : w5.heap[wr.heap.size]? = some (.cells #[.int .i64 0, .int .u32 0] 111) := hk5 wr.heap.size _ (Nat.le_of_lt HRZ.out) r4; have u0 : w5.cell? ⟨wr.heap.size, 0, none⟩ = some (.int .i64 0) := (by simp [World.cell?, r5]); have u1 : w5.cell? ⟨wr.heap.size, 1, none⟩ = some (.int .u32 0) := (by simp [World.cell?, r5]); have u2 : w5.frozen? ⟨wr.heap.size, 0, none⟩ = false := (by simp [World.frozen?, r5]); have u3 : w5.frozen? ⟨wr.heap.size, 1, none⟩ = false := (by simp [World.frozen?, r5])) | (have r5 : w5.heap[w4.heap.size]? = some (.cells #[.int .i64 0, .int .u32 0] 111) := hk5 w4.heap.size _ (Nat.le_trans (Nat.le_of_lt HRZ.out) B4.size) (heap_alloc_new _ _); have u0 : w5.cell? ⟨w4.heap.size, 0, none⟩ = some (.int .i64 0) := (by simp [World.cell?, r5]); have u1 : w5.cell? ⟨w4.heap.size, 1, none⟩ = some (.int .u32 0) := (by simp [World.cell?, r5]); have u2 : w5.frozen? ⟨w4.heap.size, 0, none⟩ = false := (by simp [World.frozen?, r5]); have u3 : w5.frozen? ⟨w4.heap.size, 1, none⟩ = false := (by simp [World.frozen?, r5])) | skip))
              all_goals
                go_wp2_with fail
                go_meet
                have hz6 := B4.size
                first
                  | exact ⟨ad, had, rfl, wr.heap.size, rfl, hI5.far (r := wr.heap.size) HRZ.out ⟨_, u0, fun z e => by cases e⟩ ((Turn.setCell w5 _ _ _ (by simp)).then (Turn.setCell _ _ _ _ (by simp)))⟩
                  | exact ⟨ad, had, rfl, w4.heap.size, rfl, hI5.far (r := w4.heap.size) (by have := HRZ.out; omega) ⟨_, u0, fun z e => by cases e⟩ ((Turn.setCell w5 _ _ _ (by simp)).then (Turn.setCell _ _ _ _ (by simp)))⟩
                  | exact ⟨ad, had, rfl, w5.heap.size, rfl, hI5.below ((Below.refl _ _).alloc (Nat.le_refl _) _)⟩
              --DEV1
            case rest =>
              obtain ⟨ad, had, rfl, r, rfl, hI4⟩ := hcut
              generalize wc = w4 at *
              have hcell := hI4.cell
              have y0 : w4.cell? ⟨w.heap.size, 0, none⟩ = some (.int .i64 0) := by simp [World.cell?, hcell]
              have y1 : w4.cell? ⟨w.heap.size, 1, none⟩ = some (.slice none 0 0) := by simp [World.cell?, hcell]
              have y2 : w4.frozen? ⟨w.heap.size, 0, none⟩ = false := by simp [World.frozen?, hcell]
              have y3 : w4.frozen? ⟨w.heap.size, 1, none⟩ = false := by simp [World.frozen?, hcell]
              have HF := hid (fun (u v : Value) => hI4.fin (((Turn.setCell w4 w.heap.size 0 u (by simp)).then (Turn.setCell _ w.heap.size 1 v (by simp)))))
              have hcm : Dv.commit D I.H (S.ep + 1) (W ++ V) (sumsT F x.tabs x.nt) = (some qe, D2) := by
                have h1 : wall D I.H (W ++ V) = (some qe, D2) := by
                  rw [wall_append, HWJ.out]
                  show wall Dj I.H V = _
                  rw [← List.take_append_drop (i + 1) V]
                  exact wall_fail HWN.out
                unfold Dv.commit
                rw [h1]
              have HCM := hid hcm
              have HAD := hid had
              clear hcell hI4 hcall htab hcm had c1 c2 c3
              go_wp2_with fail
              refine bodyPost_ret (v := .tuple #[Rv 0 none 0 0, ev ad]) (by simp [results, Tryz.results50, go_sem, y0, y1]) rfl ?_
              rw [HWSV.out, HBT.out, HCM.out]
              obtain ⟨f1, f2, f3⟩ := HF.out (.int .i64 0) (.slice none 0 0)
              exact ⟨⟨ad, _, _, _, _, HAD.out, rfl⟩, m.p, .inl rfl, f1.mono (by omega), f3⟩
        · obtain rfl : i = x.nt.length := by omega
          obtain ⟨T', hT'⟩ : ∃ T, T = sumsT F x.tabs x.nt := ⟨_, rfl⟩
          rw [List.take_of_length_le (Nat.le_refl _), ← hT'] at hI
          rw [List.take_of_length_le (by have := HVL.out; omega)] at hwi
          have hwa : wall D I.H (W ++ V) = (none, Di) := by rw [wall_append, HWJ.out]; exact hwi
          obtain ⟨d1, d2, d3, d4⟩ := HD.out
          have hT7 : T'.length = 7 := by rw [hT', sumsT_length]; exact hl7
          have hTok : ∀ r ∈ T', 0 ≤ r.1 ∧ r.1 ≤ 6000 ∧ r.2 < 4294967296 := by rw [hT']; exact sumsT_ok x.nt hokT
          have hfl := flush_w bs I.d lo _ m Di wr hI.at_.pr.dev (hI.ev.sub (by decide)) (by omega) (by omega) (by omega) (by omega)
          obtain ⟨i1, i2, i3, i4, i5⟩ := flushT_in Di
          have hcm : Dv.commit D I.H (S.ep + 1) (W ++ V) T' = match Di.flushT with | (some q, D2) => (some q, D2) | (none, D2) => D2.save (GeoW.half D.blocks) (S.ep + 1) (RootP.enc ⟨((S.ep + 1 : Nat) : Int), T'⟩) := by
            unfold Dv.commit
            rw [hwa]
            simp only
            rcases Di.flushT with ⟨_ | q, D2⟩ <;> rfl
          rw [hT'] at hcm
          obtain ⟨FT, hFT⟩ : ∃ FT, FT = Di.flushT := ⟨_, rfl⟩
          rw [← hFT] at hfl hcm i1 i2 i3 i4 i5
          obtain ⟨rr, D3⟩ := FT
          simp only at hfl hcm i1 i2 i3 i4 i5
          have hend : ∀ (w5 : World) (p' : Nat), (p' = m.p ∨ wr.heap.size ≤ p') → DevG.At w5 lo I.d (n + 2 * x.pg.length + 2 * x.nt.length + 3 * Di.np) { m with p := p' } D3 → Turn (own I.d m) wr w5 →
              (SAt w5 lo (n + 2 * x.pg.length + 2 * x.nt.length + 3 * Di.np) { m with p := p' } D3 I S ∧ LW w5 B (nl + x.pg.length) X tb tc a (.slice na x.nt.length nc) (.slice pa x.pg.length pc) vf { x with at_ := F, tabs := T' } ∧ Ev w5 lo bs seven ∧ Turn (a :: tb :: own I.d m) w w5 ∧ w5.heap[w.heap.size]? = some (.cells #[.int .i64 0, .slice none 0 0] 89) ∧ (∀ y ∈ own I.d { m with p := p' }, y ∈ own I.d m ∨ wr.heap.size ≤ y) ∧ wr.heap.size ≤ w5.heap.size) := by
            intro w5 p' hp' h5 t5
            have hds := hI.dsub
            have hown : ∀ y ∈ own I.d { m with p := p' }, y ∈ own I.d m ∨ wr.heap.size ≤ y := by
              intro y hy
              simp only [own, Mp.list, List.mem_cons, List.not_mem_nil, or_false] at hy ⊢
              rcases hp' with e | e
              · subst e; exact .inl hy
              · rcases hy with hy | hy | hy | hy | hy | hy
                · exact .inl (by simp [hy])
                · exact .inl (by simp [hy])
                · exact .inr (by omega)
                · exact .inl (by simp [hy])
                · exact .inl (by simp [hy])
                · exact .inl (by simp [hy])
            have pr5 : PR w5 lo I.d (n + 2 * x.pg.length + 2 * x.nt.length + 3 * Di.np) { m with p := p' } D3 I.p I.H I.c := hI.at_.pr.turn h5 t5 i3
            refine ⟨hI.at_.turn pr5 (t5.mono fun y hy => by simp only [List.mem_cons]; exact .inr (List.mem_cons.1 hy)) (by omega) hown, hI.lw.turn t5 (fun y hy => (hds y hy).1), hI.ev.turn t5 (fun y hy => (hds y hy).2), hI.turn.then (t5.mono fun y hy => by simp only [List.mem_cons]; exact .inr (.inr (List.mem_cons.1 hy))), t5.cells hI.cell (fun hm => ?_), hown, t5.size⟩
            have := (hds _ hm).1
            have := hI.out.2
            omega
          have c0 := (HX.out _ _ _ _ _ hI).1.1
          have HEND := hid hend
          have HRZ := hid (Array.getElem?_eq_some_iff.1 hI.cell).1
          have HCM := hid hcm
          have HTO := hid hTok
          have HT7 := hid hT7
          have HOUT := hid hI.out
          have HSEP := hid hI.sep
          clear hI hwa hcm hend hFT hwi HI0 hTok hT7
          cases rr with
          | some qe =>
            go_wp2_with fail
            refine hfl.mono ?_
            rintro e w5 ⟨⟨v, ⟨ax, hax, rfl⟩, rfl⟩, p', hp', h5, t5⟩
            obtain ⟨k5, l5, ev5, tt5, cR, own5, sz5⟩ := HEND.out w5 p' hp' h5 t5
            have y0 : w5.cell? ⟨w.heap.size, 0, none⟩ = some (.int .i64 0) := by simp [World.cell?, cR]
            have y1 : w5.cell? ⟨w.heap.size, 1, none⟩ = some (.slice none 0 0) := by simp [World.cell?, cR]
            have y2 : w5.frozen? ⟨w.heap.size, 0, none⟩ = false := by simp [World.frozen?, cR]
            have y3 : w5.frozen? ⟨w.heap.size, 1, none⟩ = false := by simp [World.frozen?, cR]
            have HF := hid (fun (w6 : World) (ht : Turn [w.heap.size] w5 w6) => And.intro (fin_away k5 l5 HSEP.out HOUT.out cR (fun z e => by cases e) (fun y hy => (own5 y hy).imp id (fun h => by have := HRZ.out; omega)) ht) (tt5.trans ht (fun y hy => .inr (by rw [List.mem_singleton.1 hy]; exact Nat.le_refl _))))
            have HAX := hid hax
            have HP' := hid hp'
            clear k5 l5 ev5 tt5 cR own5 sz5 h5 t5 hax hp' hfl c0
            go_wp2_with fail
            refine bodyPost_ret (v := .tuple #[Rv 0 none 0 0, ev ax]) (by simp [results, Tryz.results50, go_sem, y0, y1]) rfl ?_
            rw [HWSV.out, HBT.out, HCM.out]
            obtain ⟨⟨f1, f2⟩, f3⟩ := HF.out _ ((Turn.setCell w5 w.heap.size 0 (.int .i64 0) (by simp)).then (Turn.setCell _ w.heap.size 1 (.slice none 0 0) (by simp)))
            exact ⟨⟨ax, _, _, _, _, HAX.out, rfl⟩, p', HP'.out.imp id (fun h => by have := HRZ.out; omega), f1.mono (by omega), f3⟩
          | none =>
            have hnp0 : D3.np = 0 := i5 rfl
            go_wp2_with fail
            refine hfl.mono ?_
            rintro e w5 ⟨⟨v, rfl, rfl⟩, p', hp', h5, t5⟩
            obtain ⟨k5, l5, ev5, tt5, cR, own5, sz5⟩ := HEND.out w5 p' hp' h5 t5
            have s2 := k5.c.2.2.1
            have s2d : w5.drew.cell? ⟨I.s, 2, none⟩ = some (.int .i64 S.ep) := s2
            have x0 := l5.c.1
            have x0d : w5.drew.cell? ⟨X, 0, none⟩ = some (.slice (some ⟨tb, 0, none⟩) 7 tc) := x0
            have bO := (Below.refl w5.heap.size w5).alloc (Nat.le_refl _) (.cells #[.int .i64 0, .slice none 0 0] 89)
            have s2a := (k5.below bO).c.2.2.1
            have x0a := (l5.below bO).c.1
            have hwe : IntKind.i64.wrap ((S.ep : Int) + 1) = (S.ep : Int) + 1 := by rw [IntKind.wrap_i64]; omega
            have H5 := hid (And.intro k5 (And.intro l5 (And.intro ev5 (And.intro tt5 cR))))
            have HO5 := hid own5
            have HZ5 := hid sz5
            have HP' := hid hp'
            have HA5 := hid h5
            have HI5 := hid (And.intro i1 (And.intro i2 (And.intro i3 i4)))
            have HDD := hid (And.intro d1 (And.intro d2 (And.intro d3 (And.intro d4 (And.intro e1 (And.intro e2 (And.intro e3 e4)))))))
            clear k5 l5 ev5 tt5 cR own5 sz5 h5 t5 hp' hfl c0 i1 i2 i3 i4 i5 d1 d2 d3 d4 e1 e2 e3 e4
            go_upto_region 23 with fail
            go_cut [16] from 122 to 132 (fun v16 wx => ∃ r, v16 = ptr r ∧ w5.heap.size ≤ r ∧ wx.heap[r]? = some (.cells #[.int .i64 ((S.ep : Int) + 1), .slice (some ⟨tb, 0, none⟩) 7 tc] 89) ∧ Below w5.heap.size w5 wx)
            case first =>
              --DEV0
              go_region
              all_goals
                go_wp2_with fail
                go_meet
                exact ⟨w5.heap.size, rfl, Nat.le_refl _, heap_alloc_new _ _, (Below.refl _ _).drew.alloc (Nat.le_refl _) _⟩
              --DEV1
            case rest =>
              obtain ⟨r, rfl, hr, hcell, b6⟩ := hcut
              generalize wc = w6 at *
              obtain ⟨k5, l5, ev5, tt5, cR⟩ := H5.out
              obtain ⟨i1, i2, i3, i4⟩ := HI5.out
              obtain ⟨d1, d2, d3, d4, e1, e2, e3, e4⟩ := HDD.out
              obtain ⟨RS, hRS⟩ : ∃ RS, RS = D3.save (GeoW.half D.blocks) (S.ep + 1) (RootP.enc ⟨((S.ep + 1 : Nat) : Int), T'⟩) := ⟨_, rfl⟩
              have hbl : D3.blocks = D.blocks := by omega
              have hsv : ∀ w', Below w6.heap.size w6 w' → Calls Tryz.prog 92 #[ptr I.d, Rv ((S.ep : Int) + 1) (some ⟨tb, 0, none⟩) 7 tc] w' fun e w8 => ∃ v, Says bs RS.1 v ∧ e = .returned v ∧ ∃ p'', (p'' = m.p ∨ wr.heap.size ≤ p'') ∧ SAt w8 lo (n + 8 * (x.pg.length + x.nt.length) + 3 * D.np + 8) { m with p := p'' } RS.2 I S ∧ LW w8 B (nl + 300) X tb tc a (.slice na x.nt.length nc) (.slice pa x.pg.length pc) vf { x with at_ := F, tabs := T' } ∧ Turn (a :: tb :: own I.d m) w w8 ∧ w8.heap[w.heap.size]? = some (.cells #[.int .i64 0, .slice none 0 0] 89) ∧ w8.heap[r]? = some (.cells #[.int .i64 ((S.ep : Int) + 1), .slice (some ⟨tb, 0, none⟩) 7 tc] 89) ∧ (∀ y ∈ own I.d { m with p := p'' }, y ∈ own I.d m ∨ w.heap.size < y) := by
                intro w' hb'
                have hb6 : Below w5.heap.size w5 w' := b6.trans (hb'.mono b6.size)
                have k6 := k5.below hb6
                have l6 := l5.below hb6
                have ev6 := ev5.below hb6
                have hz := HRZ.out
                have hz5 := HZ5.out
                have hz6 := hb6.size
                have hmo := k5.pr.most
                have hTi : Refs w' (some ⟨tb, 0, none⟩) T'.length tc T' := by rw [HT7.out]; exact own_refs l6.tabs
                have hs := save_w bs I.d lo _ { m with p := p' } D3 (S.ep + 1) T' (some ⟨tb, 0, none⟩) tc w' k6.pr.dev (ev6.sub (by decide)) (by omega) (by omega) hTi ⟨by simp only; omega, by simp only; omega, by simp only; rw [HT7.out]; decide, fun z hz => ⟨(HTO.out z hz).1, (HTO.out z hz).2.1⟩⟩ (fun z hz => (HTO.out z hz).2.2) (by omega) (by omega) (by omega) (by omega)
                rw [HT7.out, hbl, ← hRS, hnp0] at hs
                refine hs.mono ?_
                rintro e w8 ⟨⟨v, hv, rfl⟩, p'', hp'', h8, t8⟩
                have pr8 : PR w8 lo I.d (n + 8 * (x.pg.length + x.nt.length) + 3 * D.np + 8) { m with p := p'' } RS.2 I.p I.H I.c := (k6.pr.turn h8 t8 (by rw [hRS, save_blocks])).mono (by omega) (Nat.le_refl _)
                have own8 : ∀ y ∈ own I.d { m with p := p'' }, y ∈ own I.d { m with p := p' } ∨ w'.heap.size ≤ y := by
                  intro y hy
                  simp only [own, Mp.list, List.mem_cons, List.not_mem_nil, or_false] at hy ⊢
                  rcases hp'' with e | e
                  · simp only at e; subst e; exact .inl hy
                  · rcases hy with hy | hy | hy | hy | hy | hy
                    · exact .inl (by simp [hy])
                    · exact .inl (by simp [hy])
                    · exact .inr (by omega)
                    · exact .inl (by simp [hy])
                    · exact .inl (by simp [hy])
                    · exact .inl (by simp [hy])
                have hsub : ∀ y ∈ own I.d m, y < B := fun y hy => HSEP.out.1 y (by simp only [List.mem_cons]; exact .inr (.inr (.inr (.inr (List.mem_cons.1 hy)))))
                have hBR := HOUT.out.2
                have hge := l6.ge
                have hdl := k5.pr.dev.dlt
                have hc6 : w'.heap[r]? = some (.cells #[.int .i64 ((S.ep : Int) + 1), .slice (some ⟨tb, 0, none⟩) 7 tc] 89) := (hb'.block r (Array.getElem?_eq_some_iff.1 hcell).1).trans hcell
                refine ⟨v, hv, rfl, p'', ?_, k6.turn pr8 (t8.mono fun y hy => by simp only [List.mem_cons]; exact .inr (List.mem_cons.1 hy)) (by omega) own8, (l6.turn' t8 fun y hy hm => ?_).mono (by omega), (tt5.then (Turn.of_below hb6)).trans t8 (fun y hy => (HO5.out y hy).imp (fun h => by simp only [List.mem_cons]; exact .inr (.inr (List.mem_cons.1 h))) (fun h => by omega)), t8.cells ((hb6.block _ (Array.getElem?_eq_some_iff.1 cR).1).trans cR) (fun hm => ?_), t8.cells hc6 (k6.pr.dev.out hc6 (by omega)), fun y hy => ?_⟩
                · rcases hp'' with e | e
                  · rcases HP'.out with e' | e'
                    · exact .inl (e.trans e')
                    · exact .inr (by rw [e]; exact e')
                  · exact .inr (by omega)
                · have h1 := hge y hm
                  have h2 := HOUT.out.1 y hm
                  rcases HO5.out y hy with h | h
                  · have := hsub y h; omega
                  · omega
                · rcases HO5.out _ hm with h | h
                  · have := hsub _ h; omega
                  · omega
                · rcases own8 y hy with h | h
                  · exact (HO5.out y h).imp id (fun h => by omega)
                  · exact .inr (by omega)
              have hrR : w.heap.size ≠ r := by have := HRZ.out; have := HZ5.out; omega
              have s0 := (k5.below b6).c.1
              have r0 : w6.cell? ⟨r, 0, none⟩ = some (.int .i64 ((S.ep : Int) + 1)) := by simp [World.cell?, hcell]
              have r1 : w6.cell? ⟨r, 1, none⟩ = some (.slice (some ⟨tb, 0, none⟩) 7 tc) := by simp [World.cell?, hcell]
              have HRS := hid hRS
              clear k5 l5 ev5 tt5 cR hcell s2 s2d s2a x0 x0d x0a i1 i2 i3 i4 d1 d2 d3 d4 e1 e2 e3 e4 hRS hbl
              go_upto_region 24 with fail
              go_region_held3 (fun w' => w'.cell? ⟨I.s, 0, none⟩ = some (ptr I.d) ∧ w'.cell? ⟨r, 0, none⟩ = some (.int .i64 ((S.ep : Int) + 1)) ∧ w'.cell? ⟨r, 1, none⟩ = some (.slice (some ⟨tb, 0, none⟩) 7 tc)) (first | exact ⟨s0, r0, r1⟩ | exact p8 | exact p9 _ _ | go_keep)
                (first | (go_at_call 92; refine (hsv _ (by first | exact Below.drew (Below.refl _ _) | exact below_drewN (Below.refl _ _) _)).mono ?_; rintro e w8 ⟨v, hv, rfl, p'', hp'', k8, l8, t8, c8, cr8, own8⟩; have p8 : w8.cell? ⟨I.s, 0, none⟩ = some (ptr I.d) ∧ w8.cell? ⟨r, 0, none⟩ = some (.int .i64 ((S.ep : Int) + 1)) ∧ w8.cell? ⟨r, 1, none⟩ = some (.slice (some ⟨tb, 0, none⟩) 7 tc) := ⟨k8.c.1, by simp [World.cell?, cr8], by simp [World.cell?, cr8]⟩; have f9 := fun (u v : Value) => fin_away k8 l8 HSEP.out HOUT.out c8 (fun z e => by cases e) own8 ((Turn.setCell w8 w.heap.size 0 u (by simp)).then (Turn.setCell _ w.heap.size 1 v (by simp))); have p9 : ∀ u v : Value, ((w8.setCell ⟨w.heap.size, 0, none⟩ u).setCell ⟨w.heap.size, 1, none⟩ v).cell? ⟨I.s, 0, none⟩ = some (ptr I.d) ∧ ((w8.setCell ⟨w.heap.size, 0, none⟩ u).setCell ⟨w.heap.size, 1, none⟩ v).cell? ⟨r, 0, none⟩ = some (.int .i64 ((S.ep : Int) + 1)) ∧ ((w8.setCell ⟨w.heap.size, 0, none⟩ u).setCell ⟨w.heap.size, 1, none⟩ v).cell? ⟨r, 1, none⟩ = some (.slice (some ⟨tb, 0, none⟩) 7 tc) := (fun u v => ⟨(f9 u v).1.c.1, by simp [World.cell?, World.setCell, Array.getElem?_modify, cr8, hrR], by simp [World.cell?, World.setCell, Array.getElem?_modify, cr8, hrR]⟩); have HF9 := hid f9; have y0 : w8.cell? ⟨w.heap.size, 0, none⟩ = some (.int .i64 0) := (by simp [World.cell?, c8]); have y1 : w8.cell? ⟨w.heap.size, 1, none⟩ = some (.slice none 0 0) := (by simp [World.cell?, c8]); have y2 : w8.frozen? ⟨w.heap.size, 0, none⟩ = false := (by simp [World.frozen?, c8]); have y3 : w8.frozen? ⟨w.heap.size, 1, none⟩ = false := (by simp [World.frozen?, c8])))
              all_goals
                have HV := hid hv
                have HPP := hid hp''
                have HTT := hid t8
                clear hsv p8 p9 hv hp'' t8 k8 l8
                go_wp2_with fail
                refine bodyPost_ret (v := .tuple #[Rv ((S.ep : Int) + 1) (some ⟨tb, 0, none⟩) 7 tc, v]) (by simp [results, Tryz.results50, go_sem, y0, y1]) rfl ?_
                rw [HWSV.out, HBT.out, HCM.out, ← hT', ← HRS.out]
                obtain ⟨f1, f2⟩ := HF9.out (.int .i64 ((S.ep : Int) + 1)) (.slice (some ⟨tb, 0, none⟩) 7 tc)
                refine ⟨?_, p'', HPP.out.imp id (fun h => by have := HRZ.out; omega), f1, HTT.out.trans ((Turn.setCell (S := [w.heap.size]) w8 w.heap.size 0 _ (by simp)).then (Turn.setCell _ w.heap.size 1 _ (by simp))) (fun y hy => .inr (by rw [List.mem_singleton.1 hy]; exact Nat.le_refl _))⟩
                have hv := HV.out
                rcases RS with ⟨_ | q, RD⟩
                · obtain rfl : v = .nilIface := hv
                  refine ⟨rfl, ?_⟩
                  rw [← HFF.out, ← hT']
                  exact f2
                · obtain ⟨ax, hax, rfl⟩ := hv
                  exact ⟨ax, _, _, _, _, hax, rfl⟩
end Go.Proofs.YtbjfgdahfpfgdaaGreatDoor.PgW
