/- The walk of PairFalls. -/
import Derived.Test.YtlljpljfmaaejaaDoorPairFall
import Derived.Test.YtlljpljfmaaejaaDoorNumWalk
namespace Go.Proofs.YtlljpljfmaaejaaDoor.pairFalls
open Go Go.RowKit Go.Maps Go.Proofs.YtlljpljfmaaejaaDoor.Mem Go.Proofs.YtlljpljfmaaejaaDoor.MapsW Go.Proofs.YtlljpljfmaaejaaDoor.SeeW Go.Proofs.YtlljpljfmaaejaaDoor.DevG Go.Proofs.YtlljpljfmaaejaaDoor.PairG Go.Proofs.YtlljpljfmaaejaaDoor.BlobW Go.Proofs.YtlljpljfmaaejaaDoor.Ints
set_option linter.unusedVariables false
set_option maxRecDepth 100000

theorem is_two (w : World) (x y : Int) (t : TypeId) : Is (w.alloc (.cells #[.int .i64 x, .int .i64 y] t)) (some ⟨w.heap.size, 0, none⟩) 2 2 [x, y] :=
  Row.fresh w #[.int .i64 x, .int .i64 y] t (0, 0) 2 rfl (by decide)
theorem Is.turn {w w' : World} {a : Option Addr} {n cap : Nat} {zs : List Int} (h : Is w a n cap zs) {S : List Nat} (ht : Turn S w w') (hS : ∀ b o, a = some ⟨b, o, none⟩ → b ∉ S) : Is w' a n cap zs :=
  Row.keep h fun b o e hlt => ht.block b hlt (hS b o e)
theorem over (bs : List Addr) (a0 : Int) (a1 : Option Addr) (len1 cap1 : Nat) (a2 : Option Addr) (len2 cap2 : Nat) (a3 a4 : Bool) (w : World) (hB : Ev w w.heap.size bs five) (hn : 256 < len1) :
    Calls Tryd.prog 11 #[.int .i64 a0, .slice a1 len1 cap1, .slice a2 len2 cap2, .bool a3, .bool a4] w fun e w' => e = .returned (.bool true) ∧ Below w.heap.size w w' := by
  have d1 : decide ((256 : Int) < (len1 : Int)) = true := decide_eq_true (by omega)
  clear hn
  go_enter Tryd.func11, Tryd.ntmps11
  go_wp2_with fail
  refine (first_w bs _ hB).mono ?_
  rintro e w1 ⟨rfl, hb1⟩
  go_wp2_with fail
  go_ret
  exact ⟨rfl, hb1⟩
theorem over2 (bs : List Addr) (a0 : Int) (a1 : Option Addr) (len1 cap1 : Nat) (a2 : Option Addr) (len2 cap2 : Nat) (a3 a4 : Bool) (w : World) (hB : Ev w w.heap.size bs five) (hn : len1 ≤ 256) (hn2 : 256 < len2) :
    Calls Tryd.prog 11 #[.int .i64 a0, .slice a1 len1 cap1, .slice a2 len2 cap2, .bool a3, .bool a4] w fun e w' => e = .returned (.bool true) ∧ Below w.heap.size w w' := by
  have d1 : decide ((256 : Int) < (len1 : Int)) = false := decide_eq_false (by omega)
  have d2 : decide ((256 : Int) < (len2 : Int)) = true := decide_eq_true (by omega)
  clear hn hn2
  go_enter Tryd.func11, Tryd.ntmps11
  go_wp2_with fail
  refine (first_w bs _ hB).mono ?_
  rintro e w1 ⟨rfl, hb1⟩
  go_wp2_with fail
  go_ret
  exact ⟨rfl, hb1⟩

set_option maxHeartbeats 16000000 in
theorem at11 (bs : List Addr) (a0 : Int) (a1 : Option Addr) (len1 cap1 : Nat) (l1 : List Nat) (a2 : Option Addr) (len2 cap2 : Nat) (l2 : List Nat) (w : World) (hB : Ev w w.heap.size bs five) (hl1 : Nums .u8 w a1 len1 cap1 l1) (hb1 : Crc.Bytes l1) (hn1 : len1 ≤ 256) (hl2 : Nums .u8 w a2 len2 cap2 l2) (hb2 : Crc.Bytes l2) (hn2 : len2 ≤ 256) (r0 : -9223372036854775808 ≤ a0 ∧ a0 ≤ 9223372036854775807) :
    Calls Tryd.prog 11 #[.int .i64 a0, .slice a1 len1 cap1, .slice a2 len2 cap2, .bool true, .bool true] w fun e w' => e = .returned (.bool true) ∧ Below w.heap.size w w' := by
  obtain ⟨A, hA⟩ : ∃ A, A = Crc.pad l1 := ⟨_, rfl⟩
  obtain ⟨B, hBB⟩ : ∃ B, B = Crc.pad l2 := ⟨_, rfl⟩
  have hAb : Blk A := by rw [hA]; exact pad_blk hb1 (by rw [hl1.len]; exact hn1)
  have hBb : Blk B := by rw [hBB]; exact pad_blk hb2 (by rw [hl2.len]; exact hn2)
  have HA := hid hA
  have HBB := hid hBB
  have HAb := hid hAb
  have HBb := hid hBb
  clear hA hBB hAb hBb
  have hh : GeoW.half 320 = 80 := by decide
  obtain ⟨n, hnn⟩ : ∃ n : Nat, a0 % 80 = n := ⟨(a0 % 80).toNat, by have := Int.emod_nonneg a0 (b := 80) (by omega); omega⟩
  have hn80 : n < 80 := by have := Int.emod_lt_of_pos a0 (b := 80) (by omega); omega
  have d1 : decide ((256 : Int) < (len1 : Int)) = false := decide_eq_false (by omega)
  have d2 : decide ((256 : Int) < (len2 : Int)) = false := decide_eq_false (by omega)
  have HN1 := hid hn1
  have HN2 := hid hn2
  clear hn1 hn2
  have HL1 := hid hl1
  have HL2 := hid hl2
  clear hl1 hl2
  go_enter Tryd.func11, Tryd.ntmps11
  go_wp2_with fail
  refine (first_w bs _ hB).mono ?_
  rintro e w0 ⟨rfl, hb0⟩
  have HB0 := hid ((hB.below hb0).mono hb0.size)
  have HW0 := hid hb0
  clear hB hb0
  go_wp2_with fail
  refine (NumW.number_w a0 80 _ (by decide) (by decide) r0.1 r0.2).mono ?_
  rintro e w' ⟨rfl, rfl⟩
  rw [hnn]
  clear hnn r0
  go_wp2_with fail
  refine (ses_open 320 _ (by omega) (by omega)).mono ?_
  rintro e w1 ⟨p, rfl, s1⟩
  rw [hh] at s1
  have HS1 := hid s1
  have hbk := block_w _ _ _ l1 w1 (HL1.out.below (HW0.out.trans (s1.b.mono HW0.out.size))) HN1.out
  rw [← HA.out] at hbk
  clear s1
  go_wp2_with fail
  refine hbk.mono ?_
  rintro e w2 ⟨g2, gc2, rfl, n2, hg2, b2⟩
  have s2 := HS1.out.below b2
  have hw := ses_write n _ gc2 A _ s2 hn80 n2 HAb.out (by decide) (by decide)
  clear hbk n2 hg2 b2 HS1 s2
  go_wp2_with fail
  refine hw.mono ?_
  rintro e w3 ⟨rfl, s3, t3⟩
  have s4 := s3.below ((Below.refl w3.heap.size w3).alloc (Nat.le_refl _) (.cells #[.int .i64 n, .int .u32 (Crc.sum A)] 68))
  have rc : (w3.alloc (.cells #[.int .i64 n, .int .u32 (Crc.sum A)] 68)).heap[w3.heap.size]? = some (.cells #[.int .i64 n, .int .u32 (Crc.sum A)] 68) := alloc_at rfl _
  have HP3 := hid s3.plt
  have HD3 := hid s3.dlt
  clear hw s3 t3
  go_wp2_with fail
  generalize w3.alloc (.cells #[.int .i64 n, .int .u32 (Crc.sum A)] 68) = w4 at *
  have hnp : (put2 (Dv.new 320) 80 n A).np ≤ 2 := put2_np (Dv.new 320) 80 n A
  have hfl := ses_flush _ s4 (by decide) (by omega) (by show 0+1+1 < _; decide)
  have hdp : w3.heap.size ≠ p ∧ w3.heap.size ≠ w0.heap.size + 5 := ⟨Nat.ne_of_gt HP3.out, Nat.ne_of_gt HD3.out⟩
  have HDP := hid hdp
  have HS4 := hid s4
  clear s4 hdp HP3 HD3
  refine hfl.mono ?_
  rintro e w5 ⟨rfl, m5, s5, t5⟩
  have rc5 := HS4.out.cells t5 rc HDP.out.1 HDP.out.2
  have s5' := s5.mono (n' := 8) (by omega)
  have HS5 := hid s5'
  have hbk := block_w _ _ _ l2 w5 (HL2.out.below (HW0.out.trans (s5.b.mono HW0.out.size))) HN2.out
  rw [← HBB.out] at hbk
  clear hfl s5 t5 s5' HS4 rc hnp
  go_wp2_with fail
  refine hbk.mono ?_
  rintro e w6 ⟨g6, gc6, rfl, n6, hg6, b6⟩
  have s6 := HS5.out.below b6
  have rc6 := cells_below rc5 b6
  have hw := ses_write n _ gc6 B _ s6 hn80 n6 HBb.out (by decide) (by show 0+1+1+1 < _; decide)
  have HS6 := hid s6
  clear hbk n6 hg6 b6 s6 rc5 HS5
  go_wp2_with fail
  refine hw.mono ?_
  rintro e w7 ⟨rfl, s7, t7⟩
  have rc7 := HS6.out.cells t7 rc6 HDP.out.1 HDP.out.2
  have a7 := (Below.refl w7.heap.size w7).alloc (Nat.le_refl _) (.cells #[.int .i64 n, .int .u32 (Crc.sum B)] 68)
  have s8 := s7.below a7
  have rc8 := cells_below rc7 a7
  have rd : (w7.alloc (.cells #[.int .i64 n, .int .u32 (Crc.sum B)] 68)).heap[w7.heap.size]? = some (.cells #[.int .i64 n, .int .u32 (Crc.sum B)] 68) := alloc_at rfl _
  have HQ := hid (show w7.heap.size ≠ p ∧ w7.heap.size ≠ w0.heap.size + 5 from ⟨Nat.ne_of_gt s7.plt, Nat.ne_of_gt s7.dlt⟩)
  have HS8 := hid s8
  clear hw s7 t7 s8 a7 rc7 rc6 HS6
  go_wp2_with fail
  have hz8 : (w7.alloc (.cells #[.int .i64 n, .int .u32 (Crc.sum B)] 68)).heap.size = w7.heap.size + 1 := by simp
  generalize w7.alloc (.cells #[.int .i64 n, .int .u32 (Crc.sum B)] 68) = W8 at *
  have b9 := (Below.refl W8.heap.size W8).alloc (Nat.le_refl _) (.cells #[.int .i64 1, .int .i64 1] 3)
  have is9 := is_two W8 1 1 3
  rw [hz8] at is9
  have s9 := HS8.out.below b9
  have rc9 := cells_below rc8 b9
  have rd9 := cells_below rd b9
  have hol : ∀ x ∈ own (w0.heap.size + 5) m5, x < w7.heap.size + 1 := fun x hx => by have := HS8.out.k.dev.olds x hx; omega
  generalize W8.alloc (.cells #[.int .i64 1, .int .i64 1] 3) = w9 at *
  have hcr := crash_w _ _ _ _ (PairG.over n A B) (some ⟨w7.heap.size + 1, 0, none⟩) 2 2 [bit true, bit true] w9 s9.k.dev (fun w' t => Is.turn is9 t (fun b o e hm => by cases e; have := hol _ hm; omega)) (by have h1 := put2_np (Dv.new 320) 80 n A; have h2 := put2_np (put2 (Dv.new 320) 80 n A).flush 80 n B; have h3 : (put2 (Dv.new 320) 80 n A).flush.np = 0 := rfl; show (put2 (put2 (Dv.new 320) 80 n A).flush 80 n B).np ≤ 1000; omega) (by omega)
  have hnp2 : (PairG.over n A B).np ≤ 2 := by
    have h2 := put2_np (put2 (Dv.new 320) 80 n A).flush 80 n B
    have h3 : (put2 (Dv.new 320) 80 n A).flush.np = 0 := rfl
    show (put2 (put2 (Dv.new 320) 80 n A).flush 80 n B).np ≤ 2
    omega
  have HB9 := hid s9.b
  have HO9 := hid s9.k.dev.own_lo
  have HR9 := hid (show w3.heap.size ∉ own (w0.heap.size + 5) m5 ∧ w7.heap.size ∉ own (w0.heap.size + 5) m5 from ⟨s9.k.dev.out rc9 HDP.out.2, s9.k.dev.out rd9 HQ.out.2⟩)
  have HRC := hid rc9
  have HRD := hid rd9
  clear HS8 b9 is9 s9 rc8 rd hz8 rc9 rd9 hol
  refine hcr.mono ?_
  rintro e w10 ⟨rfl, ks, p10, hK, hp10, h10, t10⟩
  have HFA := hid (fallen HAb.out HBb.out true true hK)
  have B10 := hid (HB9.out.trans (t10.below HB9.out.size HO9.out))
  have rc10 := t10.cells HRC.out HR9.out.1
  have rd10 := t10.cells HRD.out HR9.out.2
  have h10' := h10.mono (n' := 40) (lo' := w0.heap.size) (by omega) (Nat.le_refl _)
  clear hcr hK h10 t10 hp10 HRC HRD HR9 HB9 HO9 hnp2
  generalize (PairG.over n A B).crash ks [bit true, bit true] = D at *
  generalize ({ m5 with p := p10 } : Mp) = m at *
  have hpo := popen_w 0 _ _ _ _ D w10 h10' (by rw [HFA.out.blocks]; decide) (by rw [HFA.out.blocks]; decide) B10.out.size HFA.out.down HFA.out.fuse
  rw [HFA.out.blocks, hh] at hpo
  have HRC := hid rc10
  have HRD := hid rd10
  clear h10' rc10 rd10
  go_wp2_with fail
  refine hpo.mono ?_
  rintro e w11 ⟨q, rfl, hq, b11⟩
  have rc11 := cells_below HRC.out b11
  have rd11 := cells_below HRD.out b11
  have B11 := hid (B10.out.trans (b11.mono B10.out.size))
  have hcl := clone_w _ _ _ _ D w11 hq.dev
  have HQ11 := hid hq
  clear hpo hq b11 HRC HRD
  go_wp2_with fail
  refine hcl.mono ?_
  rintro e w12 ⟨c, mc, rfl, hC, b12⟩
  have rc12 := cells_below rc11 b12
  have rd12 := cells_below rd11 b12
  have B12 := hid (B11.out.trans (b12.mono B11.out.size))
  have hq12 := HQ11.out.below b12
  have HAP := hid (show ∀ y ∈ own c mc, y ∉ own (w0.heap.size + 5) m from fun y hy hm => by
    have h1 := HQ11.out.dev.olds y hm
    have h2 := hC.own_lo y hy
    omega)
  have HQC := hid (show q ∉ own c mc from fun hm => by
    have h1 := (Array.getElem?_eq_some_iff.1 HQ11.out.cells).1
    have h2 := hC.own_lo q hm
    omega)
  have hpo := popen_w 0 _ _ _ _ D w12 hC (by rw [HFA.out.blocks]; decide) (by rw [HFA.out.blocks]; decide) b12.size HFA.out.down HFA.out.fuse
  rw [HFA.out.blocks, hh] at hpo
  have HQ12 := hid hq12
  have HQL := hid (show q < w12.heap.size from (Array.getElem?_eq_some_iff.1 hq12.cells).1)
  have HDL := hid hq12.dev.dlt
  have HRC := hid rc12
  have HRD := hid rd12
  clear hcl hC b12 hq12 rc11 rd11 rc12 rd12 HQ11
  go_wp2_with fail
  refine hpo.mono ?_
  rintro e w13 ⟨z, rfl, hz, b13⟩
  have rc13 := cells_below HRC.out b13
  have rd13 := cells_below HRD.out b13
  have B13 := hid (B12.out.trans (b13.mono B12.out.size))
  have hq13 := HQ12.out.below b13
  have hzq : z ≠ q ∧ z ≠ w0.heap.size + 5 := by
    have hzl := hz.lop
    have h1 := hq13.cells
    have h2 := hz.cells
    refine ⟨fun e => ?_, fun e => ?_⟩
    · subst e
      rw [h1] at h2
      have h3 := (Obj.cells.inj (Option.some.inj h2)).1
      have h4 := congrArg (·[0]?) h3
      simp at h4
      have h5 := hz.dev.own_lo c List.mem_cons_self
      have h6 := HQL.out
      have h7 := HDL.out
      have h8 := HAP.out c List.mem_cons_self
      exact h8 (by rw [← h4]; exact List.mem_cons_self)
    · subst e
      rw [hq13.dev.cells] at h2
      have h3 := (Obj.cells.inj (Option.some.inj h2)).1
      have h4 := congrArg (·[0]?) h3
      simp at h4
  have rcs : w13.cell? ⟨w3.heap.size, 0, none⟩ = some (.int .i64 n) ∧ w13.cell? ⟨w3.heap.size, 1, none⟩ = some (.int .u32 (Crc.sum A)) := by simp [World.cell?, rc13]
  obtain ⟨rc0, rc1⟩ := rcs
  have hne : ∀ {x : Nat} {u v : Value}, w13.heap[x]? = some (.cells #[.int .i64 n, u] 68) → x ≠ q ∧ x ≠ z := fun {x u v} hx => ⟨fun e => by
    subst e
    have h2 := hq13.cells
    rw [hx] at h2
    have h3 := (Obj.cells.inj (Option.some.inj h2)).1
    have h4 := congrArg (·[0]?) h3
    simp at h4, fun e => by
    subst e
    have h2 := hz.cells
    rw [hx] at h2
    have h3 := (Obj.cells.inj (Option.some.inj h2)).1
    have h4 := congrArg (·[0]?) h3
    simp at h4⟩
  have hcq := hne (v := .nilIface) rc13
  have hdq := hne (v := .nilIface) rd13
  have HNE := hid (And.intro hcq hdq)
  have HZ13 := hid hz
  have HZQ := hid hzq
  have HRC13 := hid rc13
  have HRD13 := hid rd13
  have hB13 := HB0.out.below B13.out
  have hr1 := PairG.read_w bs _ _ _ _ D q 80 0 n (Crc.sum A) w13 hq13 hB13 hn80 (fun j l hl => (HFA.out.ok.read hl).1) (by decide) (by have := HFA.out.calls; omega) (by decide)
  have HQ13 := hid hq13
  clear hpo hz b13 hq13 hzq hne hcq hdq rc13 rd13 hB13 HQ12 HRC HRD HQL HDL
  by_cases hs : Crc.sum A = Crc.sum B
  · obtain ⟨lx, hx1, hx2⟩ := HFA.out.same hs
    have HS := hid hs
    clear hs
    rw [hx1] at hr1
    go_wp2_with fail
    refine hr1.mono ?_
    rintro e w14 ⟨⟨gx, gcx, rfl, nx, _⟩, k14, t14⟩
    have B14 := hid (B13.out.trans (t14.below B13.out.size (fun x hx => by rcases List.mem_cons.1 hx with rfl | hx; exact HQ13.out.lop; exact HQ13.out.dev.own_lo x hx)))
    have hz14 := HZ13.out.aside HQ13.out t14 HAP.out HQC.out HZQ.out.1 HZQ.out.2
    have rc14 := t14.cells HRC13.out (fun hm => by rcases List.mem_cons.1 hm with e | hm; exact HNE.out.1.1 e; exact HQ13.out.dev.out HRC13.out HDP.out.2 hm)
    have rd14 := t14.cells HRD13.out (fun hm => by rcases List.mem_cons.1 hm with e | hm; exact HNE.out.2.1 e; exact HQ13.out.dev.out HRD13.out HQ.out.2 hm)
    have rds : w14.cell? ⟨w7.heap.size, 0, none⟩ = some (.int .i64 n) ∧ w14.cell? ⟨w7.heap.size, 1, none⟩ = some (.int .u32 (Crc.sum B)) := by simp [World.cell?, rd14]
    obtain ⟨rd0, rd1⟩ := rds
    have hr2 := PairG.read_w bs _ _ _ _ D z 80 0 n (Crc.sum B) w14 hz14 ((HB0.out.below B14.out).mono (by have := B11.out.size; omega)) hn80 (fun j l hl => (HFA.out.ok.read hl).1) (by decide) (by have := HFA.out.calls; omega) (by decide)
    have HZ14 := hid hz14
    have HRC14 := hid rc14
    have HRD14 := hid rd14
    clear hr1 k14 t14 hz14 rc14 rd14 rc0 rc1 HQ13 HZ13 HRC13 HRD13
    rw [hx2] at hr2
    go_wp2_with fail
    refine hr2.mono ?_
    rintro e w15 ⟨⟨gy, gcy, rfl, ny, _⟩, k15, t15⟩
    have B15 := hid (B14.out.trans (t15.below B14.out.size (fun x hx => by have hw := B11.out.size; rcases List.mem_cons.1 hx with rfl | hx; exact Nat.le_trans hw HZ14.out.lop; exact Nat.le_trans hw (HZ14.out.dev.own_lo x hx))))
    have hcc : ∀ {x : Nat} {u : Value}, w14.heap[x]? = some (.cells #[.int .i64 n, u] 68) → x ≠ z → x ≠ c → w15.heap[x]? = some (.cells #[.int .i64 n, u] 68) := fun hx hxz hxc => t15.cells hx (fun hm => by rcases List.mem_cons.1 hm with e | hm; exact hxz e; exact HZ14.out.dev.out hx hxc hm)
    have hdc : ∀ {x : Nat} {u : Value}, w14.heap[x]? = some (.cells #[.int .i64 n, u] 68) → x ≠ c := fun hx e => by
      subst e
      have h2 := HZ14.out.dev.cells
      rw [hx] at h2
      have h3 := (Obj.cells.inj (Option.some.inj h2)).1
      have h4 := congrArg (·.size) h3
      simp at h4
    have rc15 := hcc HRC14.out HNE.out.1.2 (hdc HRC14.out)
    have rd15 := hcc HRD14.out HNE.out.2.2 (hdc HRD14.out)
    have rcs : w15.cell? ⟨w3.heap.size, 1, none⟩ = some (.int .u32 (Crc.sum A)) := by simp [World.cell?, rc15]
    have rds : w15.cell? ⟨w7.heap.size, 1, none⟩ = some (.int .u32 (Crc.sum B)) := by simp [World.cell?, rd15]
    clear hr2 k15 t15 hcc hdc rc15 rd15 rd0 rd1 HRC14 HRD14 HZ14
    have hss : ((Crc.sum A : Nat) : Int) == ((Crc.sum B : Nat) : Int) := by rw [beq_iff_eq, HS.out]
    have HSS := hid hss
    clear hss
    generalize Crc.sum A = sA at *
    generalize Crc.sum B = sB at *
    have hss := HSS.out
    go_wp2_with fail
    go_ret
    exact ⟨rfl, HW0.out.trans (B15.out.mono HW0.out.size)⟩
  · obtain ⟨D1, c1, hx1⟩ := HFA.out.elder hs
    obtain ⟨D2, c2, hx2⟩ := HFA.out.newer hs
    have HS := hid hs
    clear hs
    rw [hx1] at hr1
    go_wp2_with fail
    refine hr1.mono ?_
    rintro e w14 ⟨⟨xa, hxa, rfl⟩, k14, t14⟩
    have B14 := hid (B13.out.trans (t14.below B13.out.size (fun x hx => by rcases List.mem_cons.1 hx with rfl | hx; exact HQ13.out.lop; exact HQ13.out.dev.own_lo x hx)))
    have hz14 := HZ13.out.aside HQ13.out t14 HAP.out HQC.out HZQ.out.1 HZQ.out.2
    have rc14 := t14.cells HRC13.out (fun hm => by rcases List.mem_cons.1 hm with e | hm; exact HNE.out.1.1 e; exact HQ13.out.dev.out HRC13.out HDP.out.2 hm)
    have rd14 := t14.cells HRD13.out (fun hm => by rcases List.mem_cons.1 hm with e | hm; exact HNE.out.2.1 e; exact HQ13.out.dev.out HRD13.out HQ.out.2 hm)
    have rds : w14.cell? ⟨w7.heap.size, 0, none⟩ = some (.int .i64 n) ∧ w14.cell? ⟨w7.heap.size, 1, none⟩ = some (.int .u32 (Crc.sum B)) := by simp [World.cell?, rd14]
    obtain ⟨rd0, rd1⟩ := rds
    have hr2 := PairG.read_w bs _ _ _ _ D z 80 0 n (Crc.sum B) w14 hz14 ((HB0.out.below B14.out).mono (by have := B11.out.size; omega)) hn80 (fun j l hl => (HFA.out.ok.read hl).1) (by decide) (by have := HFA.out.calls; omega) (by decide)
    have HZ14 := hid hz14
    have HRC14 := hid rc14
    have HRD14 := hid rd14
    clear hr1 k14 t14 hz14 rc14 rd14 rc0 rc1 HQ13 HZ13 HRC13 HRD13
    rw [hx2] at hr2
    go_wp2_with fail
    refine hr2.mono ?_
    rintro e w15 ⟨⟨gy, gcy, rfl, ny, _⟩, k15, t15⟩
    have B15 := hid (B14.out.trans (t15.below B14.out.size (fun x hx => by have hw := B11.out.size; rcases List.mem_cons.1 hx with rfl | hx; exact Nat.le_trans hw HZ14.out.lop; exact Nat.le_trans hw (HZ14.out.dev.own_lo x hx))))
    have hcc : ∀ {x : Nat} {u : Value}, w14.heap[x]? = some (.cells #[.int .i64 n, u] 68) → x ≠ z → x ≠ c → w15.heap[x]? = some (.cells #[.int .i64 n, u] 68) := fun hx hxz hxc => t15.cells hx (fun hm => by rcases List.mem_cons.1 hm with e | hm; exact hxz e; exact HZ14.out.dev.out hx hxc hm)
    have hdc : ∀ {x : Nat} {u : Value}, w14.heap[x]? = some (.cells #[.int .i64 n, u] 68) → x ≠ c := fun hx e => by
      subst e
      have h2 := HZ14.out.dev.cells
      rw [hx] at h2
      have h3 := (Obj.cells.inj (Option.some.inj h2)).1
      have h4 := congrArg (·.size) h3
      simp at h4
    have rc15 := hcc HRC14.out HNE.out.1.2 (hdc HRC14.out)
    have rd15 := hcc HRD14.out HNE.out.2.2 (hdc HRD14.out)
    have rcs : w15.cell? ⟨w3.heap.size, 1, none⟩ = some (.int .u32 (Crc.sum A)) := by simp [World.cell?, rc15]
    have rds : w15.cell? ⟨w7.heap.size, 1, none⟩ = some (.int .u32 (Crc.sum B)) := by simp [World.cell?, rd15]
    have h0 := trivial
    clear hr2 k15 t15 hcc hdc rc15 rd15 rd0 rd1 HRC14 HRD14 HZ14
    have hss : (((Crc.sum A : Nat) : Int) == ((Crc.sum B : Nat) : Int)) = false := by rw [beq_eq_false_iff_ne]; have hs := HS.out; omega
    generalize Crc.sum A = sA at *
    generalize Crc.sum B = sB at *
    have NY := hid ny
    clear ny
    have BA := B15
    have hbk := block_w _ _ _ l2 w15 (HL2.out.below (HW0.out.trans (BA.out.mono HW0.out.size))) HN2.out
    rw [← HBB.out] at hbk
    go_wp2_with fail
    refine hbk.mono ?_
    rintro e v1 ⟨h1, hc1, rfl, m1, _, b1⟩
    have hsm := RefW.same_w _ 256 gcy B _ 256 hc1 B v1 (NY.out.below b1) m1
    rw [decide_eq_true rfl] at hsm
    have BB1 := hid (BA.out.trans (b1.mono BA.out.size))
    have hq0 := trivial
    clear hbk m1 b1
    go_wp2_with fail
    refine hsm.mono ?_
    rintro e u1 ⟨rfl, d11⟩
    have BC1 := hid (BB1.out.trans (d11.mono BB1.out.size))
    have hq0 := trivial
    clear hsm d11 BB1
    have BL := BC1
    go_wp2_with fail
    go_ret
    exact ⟨rfl, HW0.out.trans (BL.out.mono HW0.out.size)⟩
set_option maxHeartbeats 16000000 in
theorem at10 (bs : List Addr) (a0 : Int) (a1 : Option Addr) (len1 cap1 : Nat) (l1 : List Nat) (a2 : Option Addr) (len2 cap2 : Nat) (l2 : List Nat) (w : World) (hB : Ev w w.heap.size bs five) (hl1 : Nums .u8 w a1 len1 cap1 l1) (hb1 : Crc.Bytes l1) (hn1 : len1 ≤ 256) (hl2 : Nums .u8 w a2 len2 cap2 l2) (hb2 : Crc.Bytes l2) (hn2 : len2 ≤ 256) (r0 : -9223372036854775808 ≤ a0 ∧ a0 ≤ 9223372036854775807) :
    Calls Tryd.prog 11 #[.int .i64 a0, .slice a1 len1 cap1, .slice a2 len2 cap2, .bool true, .bool false] w fun e w' => e = .returned (.bool true) ∧ Below w.heap.size w w' := by
  obtain ⟨A, hA⟩ : ∃ A, A = Crc.pad l1 := ⟨_, rfl⟩
  obtain ⟨B, hBB⟩ : ∃ B, B = Crc.pad l2 := ⟨_, rfl⟩
  have hAb : Blk A := by rw [hA]; exact pad_blk hb1 (by rw [hl1.len]; exact hn1)
  have hBb : Blk B := by rw [hBB]; exact pad_blk hb2 (by rw [hl2.len]; exact hn2)
  have HA := hid hA
  have HBB := hid hBB
  have HAb := hid hAb
  have HBb := hid hBb
  clear hA hBB hAb hBb
  have hh : GeoW.half 320 = 80 := by decide
  obtain ⟨n, hnn⟩ : ∃ n : Nat, a0 % 80 = n := ⟨(a0 % 80).toNat, by have := Int.emod_nonneg a0 (b := 80) (by omega); omega⟩
  have hn80 : n < 80 := by have := Int.emod_lt_of_pos a0 (b := 80) (by omega); omega
  have d1 : decide ((256 : Int) < (len1 : Int)) = false := decide_eq_false (by omega)
  have d2 : decide ((256 : Int) < (len2 : Int)) = false := decide_eq_false (by omega)
  have HN1 := hid hn1
  have HN2 := hid hn2
  clear hn1 hn2
  have HL1 := hid hl1
  have HL2 := hid hl2
  clear hl1 hl2
  go_enter Tryd.func11, Tryd.ntmps11
  go_wp2_with fail
  refine (first_w bs _ hB).mono ?_
  rintro e w0 ⟨rfl, hb0⟩
  have HB0 := hid ((hB.below hb0).mono hb0.size)
  have HW0 := hid hb0
  clear hB hb0
  go_wp2_with fail
  refine (NumW.number_w a0 80 _ (by decide) (by decide) r0.1 r0.2).mono ?_
  rintro e w' ⟨rfl, rfl⟩
  rw [hnn]
  clear hnn r0
  go_wp2_with fail
  refine (ses_open 320 _ (by omega) (by omega)).mono ?_
  rintro e w1 ⟨p, rfl, s1⟩
  rw [hh] at s1
  have HS1 := hid s1
  have hbk := block_w _ _ _ l1 w1 (HL1.out.below (HW0.out.trans (s1.b.mono HW0.out.size))) HN1.out
  rw [← HA.out] at hbk
  clear s1
  go_wp2_with fail
  refine hbk.mono ?_
  rintro e w2 ⟨g2, gc2, rfl, n2, hg2, b2⟩
  have s2 := HS1.out.below b2
  have hw := ses_write n _ gc2 A _ s2 hn80 n2 HAb.out (by decide) (by decide)
  clear hbk n2 hg2 b2 HS1 s2
  go_wp2_with fail
  refine hw.mono ?_
  rintro e w3 ⟨rfl, s3, t3⟩
  have s4 := s3.below ((Below.refl w3.heap.size w3).alloc (Nat.le_refl _) (.cells #[.int .i64 n, .int .u32 (Crc.sum A)] 68))
  have rc : (w3.alloc (.cells #[.int .i64 n, .int .u32 (Crc.sum A)] 68)).heap[w3.heap.size]? = some (.cells #[.int .i64 n, .int .u32 (Crc.sum A)] 68) := alloc_at rfl _
  have HP3 := hid s3.plt
  have HD3 := hid s3.dlt
  clear hw s3 t3
  go_wp2_with fail
  generalize w3.alloc (.cells #[.int .i64 n, .int .u32 (Crc.sum A)] 68) = w4 at *
  have hnp : (put2 (Dv.new 320) 80 n A).np ≤ 2 := put2_np (Dv.new 320) 80 n A
  have hfl := ses_flush _ s4 (by decide) (by omega) (by show 0+1+1 < _; decide)
  have hdp : w3.heap.size ≠ p ∧ w3.heap.size ≠ w0.heap.size + 5 := ⟨Nat.ne_of_gt HP3.out, Nat.ne_of_gt HD3.out⟩
  have HDP := hid hdp
  have HS4 := hid s4
  clear s4 hdp HP3 HD3
  refine hfl.mono ?_
  rintro e w5 ⟨rfl, m5, s5, t5⟩
  have rc5 := HS4.out.cells t5 rc HDP.out.1 HDP.out.2
  have s5' := s5.mono (n' := 8) (by omega)
  have HS5 := hid s5'
  have hbk := block_w _ _ _ l2 w5 (HL2.out.below (HW0.out.trans (s5.b.mono HW0.out.size))) HN2.out
  rw [← HBB.out] at hbk
  clear hfl s5 t5 s5' HS4 rc hnp
  go_wp2_with fail
  refine hbk.mono ?_
  rintro e w6 ⟨g6, gc6, rfl, n6, hg6, b6⟩
  have s6 := HS5.out.below b6
  have rc6 := cells_below rc5 b6
  have hw := ses_write n _ gc6 B _ s6 hn80 n6 HBb.out (by decide) (by show 0+1+1+1 < _; decide)
  have HS6 := hid s6
  clear hbk n6 hg6 b6 s6 rc5 HS5
  go_wp2_with fail
  refine hw.mono ?_
  rintro e w7 ⟨rfl, s7, t7⟩
  have rc7 := HS6.out.cells t7 rc6 HDP.out.1 HDP.out.2
  have a7 := (Below.refl w7.heap.size w7).alloc (Nat.le_refl _) (.cells #[.int .i64 n, .int .u32 (Crc.sum B)] 68)
  have s8 := s7.below a7
  have rc8 := cells_below rc7 a7
  have rd : (w7.alloc (.cells #[.int .i64 n, .int .u32 (Crc.sum B)] 68)).heap[w7.heap.size]? = some (.cells #[.int .i64 n, .int .u32 (Crc.sum B)] 68) := alloc_at rfl _
  have HQ := hid (show w7.heap.size ≠ p ∧ w7.heap.size ≠ w0.heap.size + 5 from ⟨Nat.ne_of_gt s7.plt, Nat.ne_of_gt s7.dlt⟩)
  have HS8 := hid s8
  clear hw s7 t7 s8 a7 rc7 rc6 HS6
  go_wp2_with fail
  have hz8 : (w7.alloc (.cells #[.int .i64 n, .int .u32 (Crc.sum B)] 68)).heap.size = w7.heap.size + 1 := by simp
  generalize w7.alloc (.cells #[.int .i64 n, .int .u32 (Crc.sum B)] 68) = W8 at *
  have b9 := (Below.refl W8.heap.size W8).alloc (Nat.le_refl _) (.cells #[.int .i64 1, .int .i64 0] 3)
  have is9 := is_two W8 1 0 3
  rw [hz8] at is9
  have s9 := HS8.out.below b9
  have rc9 := cells_below rc8 b9
  have rd9 := cells_below rd b9
  have hol : ∀ x ∈ own (w0.heap.size + 5) m5, x < w7.heap.size + 1 := fun x hx => by have := HS8.out.k.dev.olds x hx; omega
  generalize W8.alloc (.cells #[.int .i64 1, .int .i64 0] 3) = w9 at *
  have hcr := crash_w _ _ _ _ (PairG.over n A B) (some ⟨w7.heap.size + 1, 0, none⟩) 2 2 [bit true, bit false] w9 s9.k.dev (fun w' t => Is.turn is9 t (fun b o e hm => by cases e; have := hol _ hm; omega)) (by have h1 := put2_np (Dv.new 320) 80 n A; have h2 := put2_np (put2 (Dv.new 320) 80 n A).flush 80 n B; have h3 : (put2 (Dv.new 320) 80 n A).flush.np = 0 := rfl; show (put2 (put2 (Dv.new 320) 80 n A).flush 80 n B).np ≤ 1000; omega) (by omega)
  have hnp2 : (PairG.over n A B).np ≤ 2 := by
    have h2 := put2_np (put2 (Dv.new 320) 80 n A).flush 80 n B
    have h3 : (put2 (Dv.new 320) 80 n A).flush.np = 0 := rfl
    show (put2 (put2 (Dv.new 320) 80 n A).flush 80 n B).np ≤ 2
    omega
  have HB9 := hid s9.b
  have HO9 := hid s9.k.dev.own_lo
  have HR9 := hid (show w3.heap.size ∉ own (w0.heap.size + 5) m5 ∧ w7.heap.size ∉ own (w0.heap.size + 5) m5 from ⟨s9.k.dev.out rc9 HDP.out.2, s9.k.dev.out rd9 HQ.out.2⟩)
  have HRC := hid rc9
  have HRD := hid rd9
  clear HS8 b9 is9 s9 rc8 rd hz8 rc9 rd9 hol
  refine hcr.mono ?_
  rintro e w10 ⟨rfl, ks, p10, hK, hp10, h10, t10⟩
  have HFA := hid (fallen HAb.out HBb.out true false hK)
  have B10 := hid (HB9.out.trans (t10.below HB9.out.size HO9.out))
  have rc10 := t10.cells HRC.out HR9.out.1
  have rd10 := t10.cells HRD.out HR9.out.2
  have h10' := h10.mono (n' := 40) (lo' := w0.heap.size) (by omega) (Nat.le_refl _)
  clear hcr hK h10 t10 hp10 HRC HRD HR9 HB9 HO9 hnp2
  generalize (PairG.over n A B).crash ks [bit true, bit false] = D at *
  generalize ({ m5 with p := p10 } : Mp) = m at *
  have hpo := popen_w 0 _ _ _ _ D w10 h10' (by rw [HFA.out.blocks]; decide) (by rw [HFA.out.blocks]; decide) B10.out.size HFA.out.down HFA.out.fuse
  rw [HFA.out.blocks, hh] at hpo
  have HRC := hid rc10
  have HRD := hid rd10
  clear h10' rc10 rd10
  go_wp2_with fail
  refine hpo.mono ?_
  rintro e w11 ⟨q, rfl, hq, b11⟩
  have rc11 := cells_below HRC.out b11
  have rd11 := cells_below HRD.out b11
  have B11 := hid (B10.out.trans (b11.mono B10.out.size))
  have hcl := clone_w _ _ _ _ D w11 hq.dev
  have HQ11 := hid hq
  clear hpo hq b11 HRC HRD
  go_wp2_with fail
  refine hcl.mono ?_
  rintro e w12 ⟨c, mc, rfl, hC, b12⟩
  have rc12 := cells_below rc11 b12
  have rd12 := cells_below rd11 b12
  have B12 := hid (B11.out.trans (b12.mono B11.out.size))
  have hq12 := HQ11.out.below b12
  have HAP := hid (show ∀ y ∈ own c mc, y ∉ own (w0.heap.size + 5) m from fun y hy hm => by
    have h1 := HQ11.out.dev.olds y hm
    have h2 := hC.own_lo y hy
    omega)
  have HQC := hid (show q ∉ own c mc from fun hm => by
    have h1 := (Array.getElem?_eq_some_iff.1 HQ11.out.cells).1
    have h2 := hC.own_lo q hm
    omega)
  have hpo := popen_w 0 _ _ _ _ D w12 hC (by rw [HFA.out.blocks]; decide) (by rw [HFA.out.blocks]; decide) b12.size HFA.out.down HFA.out.fuse
  rw [HFA.out.blocks, hh] at hpo
  have HQ12 := hid hq12
  have HQL := hid (show q < w12.heap.size from (Array.getElem?_eq_some_iff.1 hq12.cells).1)
  have HDL := hid hq12.dev.dlt
  have HRC := hid rc12
  have HRD := hid rd12
  clear hcl hC b12 hq12 rc11 rd11 rc12 rd12 HQ11
  go_wp2_with fail
  refine hpo.mono ?_
  rintro e w13 ⟨z, rfl, hz, b13⟩
  have rc13 := cells_below HRC.out b13
  have rd13 := cells_below HRD.out b13
  have B13 := hid (B12.out.trans (b13.mono B12.out.size))
  have hq13 := HQ12.out.below b13
  have hzq : z ≠ q ∧ z ≠ w0.heap.size + 5 := by
    have hzl := hz.lop
    have h1 := hq13.cells
    have h2 := hz.cells
    refine ⟨fun e => ?_, fun e => ?_⟩
    · subst e
      rw [h1] at h2
      have h3 := (Obj.cells.inj (Option.some.inj h2)).1
      have h4 := congrArg (·[0]?) h3
      simp at h4
      have h5 := hz.dev.own_lo c List.mem_cons_self
      have h6 := HQL.out
      have h7 := HDL.out
      have h8 := HAP.out c List.mem_cons_self
      exact h8 (by rw [← h4]; exact List.mem_cons_self)
    · subst e
      rw [hq13.dev.cells] at h2
      have h3 := (Obj.cells.inj (Option.some.inj h2)).1
      have h4 := congrArg (·[0]?) h3
      simp at h4
  have rcs : w13.cell? ⟨w3.heap.size, 0, none⟩ = some (.int .i64 n) ∧ w13.cell? ⟨w3.heap.size, 1, none⟩ = some (.int .u32 (Crc.sum A)) := by simp [World.cell?, rc13]
  obtain ⟨rc0, rc1⟩ := rcs
  have hne : ∀ {x : Nat} {u v : Value}, w13.heap[x]? = some (.cells #[.int .i64 n, u] 68) → x ≠ q ∧ x ≠ z := fun {x u v} hx => ⟨fun e => by
    subst e
    have h2 := hq13.cells
    rw [hx] at h2
    have h3 := (Obj.cells.inj (Option.some.inj h2)).1
    have h4 := congrArg (·[0]?) h3
    simp at h4, fun e => by
    subst e
    have h2 := hz.cells
    rw [hx] at h2
    have h3 := (Obj.cells.inj (Option.some.inj h2)).1
    have h4 := congrArg (·[0]?) h3
    simp at h4⟩
  have hcq := hne (v := .nilIface) rc13
  have hdq := hne (v := .nilIface) rd13
  have HNE := hid (And.intro hcq hdq)
  have HZ13 := hid hz
  have HZQ := hid hzq
  have HRC13 := hid rc13
  have HRD13 := hid rd13
  have hB13 := HB0.out.below B13.out
  have hr1 := PairG.read_w bs _ _ _ _ D q 80 0 n (Crc.sum A) w13 hq13 hB13 hn80 (fun j l hl => (HFA.out.ok.read hl).1) (by decide) (by have := HFA.out.calls; omega) (by decide)
  have HQ13 := hid hq13
  clear hpo hz b13 hq13 hzq hne hcq hdq rc13 rd13 hB13 HQ12 HRC HRD HQL HDL
  by_cases hs : Crc.sum A = Crc.sum B
  · obtain ⟨lx, hx1, hx2⟩ := HFA.out.same hs
    have HS := hid hs
    clear hs
    rw [hx1] at hr1
    go_wp2_with fail
    refine hr1.mono ?_
    rintro e w14 ⟨⟨gx, gcx, rfl, nx, _⟩, k14, t14⟩
    have B14 := hid (B13.out.trans (t14.below B13.out.size (fun x hx => by rcases List.mem_cons.1 hx with rfl | hx; exact HQ13.out.lop; exact HQ13.out.dev.own_lo x hx)))
    have hz14 := HZ13.out.aside HQ13.out t14 HAP.out HQC.out HZQ.out.1 HZQ.out.2
    have rc14 := t14.cells HRC13.out (fun hm => by rcases List.mem_cons.1 hm with e | hm; exact HNE.out.1.1 e; exact HQ13.out.dev.out HRC13.out HDP.out.2 hm)
    have rd14 := t14.cells HRD13.out (fun hm => by rcases List.mem_cons.1 hm with e | hm; exact HNE.out.2.1 e; exact HQ13.out.dev.out HRD13.out HQ.out.2 hm)
    have rds : w14.cell? ⟨w7.heap.size, 0, none⟩ = some (.int .i64 n) ∧ w14.cell? ⟨w7.heap.size, 1, none⟩ = some (.int .u32 (Crc.sum B)) := by simp [World.cell?, rd14]
    obtain ⟨rd0, rd1⟩ := rds
    have hr2 := PairG.read_w bs _ _ _ _ D z 80 0 n (Crc.sum B) w14 hz14 ((HB0.out.below B14.out).mono (by have := B11.out.size; omega)) hn80 (fun j l hl => (HFA.out.ok.read hl).1) (by decide) (by have := HFA.out.calls; omega) (by decide)
    have HZ14 := hid hz14
    have HRC14 := hid rc14
    have HRD14 := hid rd14
    clear hr1 k14 t14 hz14 rc14 rd14 rc0 rc1 HQ13 HZ13 HRC13 HRD13
    rw [hx2] at hr2
    go_wp2_with fail
    refine hr2.mono ?_
    rintro e w15 ⟨⟨gy, gcy, rfl, ny, _⟩, k15, t15⟩
    have B15 := hid (B14.out.trans (t15.below B14.out.size (fun x hx => by have hw := B11.out.size; rcases List.mem_cons.1 hx with rfl | hx; exact Nat.le_trans hw HZ14.out.lop; exact Nat.le_trans hw (HZ14.out.dev.own_lo x hx))))
    have hcc : ∀ {x : Nat} {u : Value}, w14.heap[x]? = some (.cells #[.int .i64 n, u] 68) → x ≠ z → x ≠ c → w15.heap[x]? = some (.cells #[.int .i64 n, u] 68) := fun hx hxz hxc => t15.cells hx (fun hm => by rcases List.mem_cons.1 hm with e | hm; exact hxz e; exact HZ14.out.dev.out hx hxc hm)
    have hdc : ∀ {x : Nat} {u : Value}, w14.heap[x]? = some (.cells #[.int .i64 n, u] 68) → x ≠ c := fun hx e => by
      subst e
      have h2 := HZ14.out.dev.cells
      rw [hx] at h2
      have h3 := (Obj.cells.inj (Option.some.inj h2)).1
      have h4 := congrArg (·.size) h3
      simp at h4
    have rc15 := hcc HRC14.out HNE.out.1.2 (hdc HRC14.out)
    have rd15 := hcc HRD14.out HNE.out.2.2 (hdc HRD14.out)
    have rcs : w15.cell? ⟨w3.heap.size, 1, none⟩ = some (.int .u32 (Crc.sum A)) := by simp [World.cell?, rc15]
    have rds : w15.cell? ⟨w7.heap.size, 1, none⟩ = some (.int .u32 (Crc.sum B)) := by simp [World.cell?, rd15]
    clear hr2 k15 t15 hcc hdc rc15 rd15 rd0 rd1 HRC14 HRD14 HZ14
    have hss : ((Crc.sum A : Nat) : Int) == ((Crc.sum B : Nat) : Int) := by rw [beq_iff_eq, HS.out]
    have HSS := hid hss
    clear hss
    generalize Crc.sum A = sA at *
    generalize Crc.sum B = sB at *
    have hss := HSS.out
    go_wp2_with fail
    go_ret
    exact ⟨rfl, HW0.out.trans (B15.out.mono HW0.out.size)⟩
  · obtain ⟨D1, c1, hx1⟩ := HFA.out.elder hs
    obtain ⟨D2, c2, hx2⟩ := HFA.out.newer hs
    have HS := hid hs
    clear hs
    rw [hx1] at hr1
    go_wp2_with fail
    refine hr1.mono ?_
    rintro e w14 ⟨⟨gx, gcx, rfl, nx, _⟩, k14, t14⟩
    have B14 := hid (B13.out.trans (t14.below B13.out.size (fun x hx => by rcases List.mem_cons.1 hx with rfl | hx; exact HQ13.out.lop; exact HQ13.out.dev.own_lo x hx)))
    have hz14 := HZ13.out.aside HQ13.out t14 HAP.out HQC.out HZQ.out.1 HZQ.out.2
    have rc14 := t14.cells HRC13.out (fun hm => by rcases List.mem_cons.1 hm with e | hm; exact HNE.out.1.1 e; exact HQ13.out.dev.out HRC13.out HDP.out.2 hm)
    have rd14 := t14.cells HRD13.out (fun hm => by rcases List.mem_cons.1 hm with e | hm; exact HNE.out.2.1 e; exact HQ13.out.dev.out HRD13.out HQ.out.2 hm)
    have rds : w14.cell? ⟨w7.heap.size, 0, none⟩ = some (.int .i64 n) ∧ w14.cell? ⟨w7.heap.size, 1, none⟩ = some (.int .u32 (Crc.sum B)) := by simp [World.cell?, rd14]
    obtain ⟨rd0, rd1⟩ := rds
    have hr2 := PairG.read_w bs _ _ _ _ D z 80 0 n (Crc.sum B) w14 hz14 ((HB0.out.below B14.out).mono (by have := B11.out.size; omega)) hn80 (fun j l hl => (HFA.out.ok.read hl).1) (by decide) (by have := HFA.out.calls; omega) (by decide)
    have HZ14 := hid hz14
    have HRC14 := hid rc14
    have HRD14 := hid rd14
    clear hr1 k14 t14 hz14 rc14 rd14 rc0 rc1 HQ13 HZ13 HRC13 HRD13
    rw [hx2] at hr2
    go_wp2_with fail
    refine hr2.mono ?_
    rintro e w15 ⟨⟨gy, gcy, rfl, ny, _⟩, k15, t15⟩
    have B15 := hid (B14.out.trans (t15.below B14.out.size (fun x hx => by have hw := B11.out.size; rcases List.mem_cons.1 hx with rfl | hx; exact Nat.le_trans hw HZ14.out.lop; exact Nat.le_trans hw (HZ14.out.dev.own_lo x hx))))
    have hcc : ∀ {x : Nat} {u : Value}, w14.heap[x]? = some (.cells #[.int .i64 n, u] 68) → x ≠ z → x ≠ c → w15.heap[x]? = some (.cells #[.int .i64 n, u] 68) := fun hx hxz hxc => t15.cells hx (fun hm => by rcases List.mem_cons.1 hm with e | hm; exact hxz e; exact HZ14.out.dev.out hx hxc hm)
    have hdc : ∀ {x : Nat} {u : Value}, w14.heap[x]? = some (.cells #[.int .i64 n, u] 68) → x ≠ c := fun hx e => by
      subst e
      have h2 := HZ14.out.dev.cells
      rw [hx] at h2
      have h3 := (Obj.cells.inj (Option.some.inj h2)).1
      have h4 := congrArg (·.size) h3
      simp at h4
    have rc15 := hcc HRC14.out HNE.out.1.2 (hdc HRC14.out)
    have rd15 := hcc HRD14.out HNE.out.2.2 (hdc HRD14.out)
    have rcs : w15.cell? ⟨w3.heap.size, 1, none⟩ = some (.int .u32 (Crc.sum A)) := by simp [World.cell?, rc15]
    have rds : w15.cell? ⟨w7.heap.size, 1, none⟩ = some (.int .u32 (Crc.sum B)) := by simp [World.cell?, rd15]
    have NX := hid (nums_turn nx t15 (PAt.nou8 HZ14.out))
    clear hr2 k15 t15 hcc hdc rc15 rd15 rd0 rd1 HRC14 HRD14 HZ14
    have hss : (((Crc.sum A : Nat) : Int) == ((Crc.sum B : Nat) : Int)) = false := by rw [beq_eq_false_iff_ne]; have hs := HS.out; omega
    generalize Crc.sum A = sA at *
    generalize Crc.sum B = sB at *
    have NY := hid ny
    clear ny
    have BA := B15
    have hbk := block_w _ _ _ l1 w15 (HL1.out.below (HW0.out.trans (BA.out.mono HW0.out.size))) HN1.out
    rw [← HA.out] at hbk
    go_wp2_with fail
    refine hbk.mono ?_
    rintro e v1 ⟨h1, hc1, rfl, m1, _, b1⟩
    have hsm := RefW.same_w _ 256 gcx A _ 256 hc1 A v1 (NX.out.below b1) m1
    rw [decide_eq_true rfl] at hsm
    have BB1 := hid (BA.out.trans (b1.mono BA.out.size))
    have NY := hid (NY.out.below b1)
    clear hbk m1 b1
    go_wp2_with fail
    refine hsm.mono ?_
    rintro e u1 ⟨rfl, d11⟩
    have BC1 := hid (BB1.out.trans (d11.mono BB1.out.size))
    have NY := hid (NY.out.below d11)
    clear hsm d11 BB1
    have hbk := block_w _ _ _ l2 u1 (HL2.out.below (HW0.out.trans (BC1.out.mono HW0.out.size))) HN2.out
    rw [← HBB.out] at hbk
    go_wp2_with fail
    refine hbk.mono ?_
    rintro e v2 ⟨h2, hc2, rfl, m2, _, b2⟩
    have hsm := RefW.same_w _ 256 gcy B _ 256 hc2 B v2 (NY.out.below b2) m2
    rw [decide_eq_true rfl] at hsm
    have BB2 := hid (BC1.out.trans (b2.mono BC1.out.size))
    have hq0 := trivial
    clear hbk m2 b2
    go_wp2_with fail
    refine hsm.mono ?_
    rintro e u2 ⟨rfl, d12⟩
    have BC2 := hid (BB2.out.trans (d12.mono BB2.out.size))
    have hq0 := trivial
    clear hsm d12 BB2
    have BL := BC2
    go_wp2_with fail
    go_ret
    exact ⟨rfl, HW0.out.trans (BL.out.mono HW0.out.size)⟩
set_option maxHeartbeats 16000000 in
theorem at01 (bs : List Addr) (a0 : Int) (a1 : Option Addr) (len1 cap1 : Nat) (l1 : List Nat) (a2 : Option Addr) (len2 cap2 : Nat) (l2 : List Nat) (w : World) (hB : Ev w w.heap.size bs five) (hl1 : Nums .u8 w a1 len1 cap1 l1) (hb1 : Crc.Bytes l1) (hn1 : len1 ≤ 256) (hl2 : Nums .u8 w a2 len2 cap2 l2) (hb2 : Crc.Bytes l2) (hn2 : len2 ≤ 256) (r0 : -9223372036854775808 ≤ a0 ∧ a0 ≤ 9223372036854775807) :
    Calls Tryd.prog 11 #[.int .i64 a0, .slice a1 len1 cap1, .slice a2 len2 cap2, .bool false, .bool true] w fun e w' => e = .returned (.bool true) ∧ Below w.heap.size w w' := by
  obtain ⟨A, hA⟩ : ∃ A, A = Crc.pad l1 := ⟨_, rfl⟩
  obtain ⟨B, hBB⟩ : ∃ B, B = Crc.pad l2 := ⟨_, rfl⟩
  have hAb : Blk A := by rw [hA]; exact pad_blk hb1 (by rw [hl1.len]; exact hn1)
  have hBb : Blk B := by rw [hBB]; exact pad_blk hb2 (by rw [hl2.len]; exact hn2)
  have HA := hid hA
  have HBB := hid hBB
  have HAb := hid hAb
  have HBb := hid hBb
  clear hA hBB hAb hBb
  have hh : GeoW.half 320 = 80 := by decide
  obtain ⟨n, hnn⟩ : ∃ n : Nat, a0 % 80 = n := ⟨(a0 % 80).toNat, by have := Int.emod_nonneg a0 (b := 80) (by omega); omega⟩
  have hn80 : n < 80 := by have := Int.emod_lt_of_pos a0 (b := 80) (by omega); omega
  have d1 : decide ((256 : Int) < (len1 : Int)) = false := decide_eq_false (by omega)
  have d2 : decide ((256 : Int) < (len2 : Int)) = false := decide_eq_false (by omega)
  have HN1 := hid hn1
  have HN2 := hid hn2
  clear hn1 hn2
  have HL1 := hid hl1
  have HL2 := hid hl2
  clear hl1 hl2
  go_enter Tryd.func11, Tryd.ntmps11
  go_wp2_with fail
  refine (first_w bs _ hB).mono ?_
  rintro e w0 ⟨rfl, hb0⟩
  have HB0 := hid ((hB.below hb0).mono hb0.size)
  have HW0 := hid hb0
  clear hB hb0
  go_wp2_with fail
  refine (NumW.number_w a0 80 _ (by decide) (by decide) r0.1 r0.2).mono ?_
  rintro e w' ⟨rfl, rfl⟩
  rw [hnn]
  clear hnn r0
  go_wp2_with fail
  refine (ses_open 320 _ (by omega) (by omega)).mono ?_
  rintro e w1 ⟨p, rfl, s1⟩
  rw [hh] at s1
  have HS1 := hid s1
  have hbk := block_w _ _ _ l1 w1 (HL1.out.below (HW0.out.trans (s1.b.mono HW0.out.size))) HN1.out
  rw [← HA.out] at hbk
  clear s1
  go_wp2_with fail
  refine hbk.mono ?_
  rintro e w2 ⟨g2, gc2, rfl, n2, hg2, b2⟩
  have s2 := HS1.out.below b2
  have hw := ses_write n _ gc2 A _ s2 hn80 n2 HAb.out (by decide) (by decide)
  clear hbk n2 hg2 b2 HS1 s2
  go_wp2_with fail
  refine hw.mono ?_
  rintro e w3 ⟨rfl, s3, t3⟩
  have s4 := s3.below ((Below.refl w3.heap.size w3).alloc (Nat.le_refl _) (.cells #[.int .i64 n, .int .u32 (Crc.sum A)] 68))
  have rc : (w3.alloc (.cells #[.int .i64 n, .int .u32 (Crc.sum A)] 68)).heap[w3.heap.size]? = some (.cells #[.int .i64 n, .int .u32 (Crc.sum A)] 68) := alloc_at rfl _
  have HP3 := hid s3.plt
  have HD3 := hid s3.dlt
  clear hw s3 t3
  go_wp2_with fail
  generalize w3.alloc (.cells #[.int .i64 n, .int .u32 (Crc.sum A)] 68) = w4 at *
  have hnp : (put2 (Dv.new 320) 80 n A).np ≤ 2 := put2_np (Dv.new 320) 80 n A
  have hfl := ses_flush _ s4 (by decide) (by omega) (by show 0+1+1 < _; decide)
  have hdp : w3.heap.size ≠ p ∧ w3.heap.size ≠ w0.heap.size + 5 := ⟨Nat.ne_of_gt HP3.out, Nat.ne_of_gt HD3.out⟩
  have HDP := hid hdp
  have HS4 := hid s4
  clear s4 hdp HP3 HD3
  refine hfl.mono ?_
  rintro e w5 ⟨rfl, m5, s5, t5⟩
  have rc5 := HS4.out.cells t5 rc HDP.out.1 HDP.out.2
  have s5' := s5.mono (n' := 8) (by omega)
  have HS5 := hid s5'
  have hbk := block_w _ _ _ l2 w5 (HL2.out.below (HW0.out.trans (s5.b.mono HW0.out.size))) HN2.out
  rw [← HBB.out] at hbk
  clear hfl s5 t5 s5' HS4 rc hnp
  go_wp2_with fail
  refine hbk.mono ?_
  rintro e w6 ⟨g6, gc6, rfl, n6, hg6, b6⟩
  have s6 := HS5.out.below b6
  have rc6 := cells_below rc5 b6
  have hw := ses_write n _ gc6 B _ s6 hn80 n6 HBb.out (by decide) (by show 0+1+1+1 < _; decide)
  have HS6 := hid s6
  clear hbk n6 hg6 b6 s6 rc5 HS5
  go_wp2_with fail
  refine hw.mono ?_
  rintro e w7 ⟨rfl, s7, t7⟩
  have rc7 := HS6.out.cells t7 rc6 HDP.out.1 HDP.out.2
  have a7 := (Below.refl w7.heap.size w7).alloc (Nat.le_refl _) (.cells #[.int .i64 n, .int .u32 (Crc.sum B)] 68)
  have s8 := s7.below a7
  have rc8 := cells_below rc7 a7
  have rd : (w7.alloc (.cells #[.int .i64 n, .int .u32 (Crc.sum B)] 68)).heap[w7.heap.size]? = some (.cells #[.int .i64 n, .int .u32 (Crc.sum B)] 68) := alloc_at rfl _
  have HQ := hid (show w7.heap.size ≠ p ∧ w7.heap.size ≠ w0.heap.size + 5 from ⟨Nat.ne_of_gt s7.plt, Nat.ne_of_gt s7.dlt⟩)
  have HS8 := hid s8
  clear hw s7 t7 s8 a7 rc7 rc6 HS6
  go_wp2_with fail
  have hz8 : (w7.alloc (.cells #[.int .i64 n, .int .u32 (Crc.sum B)] 68)).heap.size = w7.heap.size + 1 := by simp
  generalize w7.alloc (.cells #[.int .i64 n, .int .u32 (Crc.sum B)] 68) = W8 at *
  have b9 := (Below.refl W8.heap.size W8).alloc (Nat.le_refl _) (.cells #[.int .i64 0, .int .i64 1] 3)
  have is9 := is_two W8 0 1 3
  rw [hz8] at is9
  have s9 := HS8.out.below b9
  have rc9 := cells_below rc8 b9
  have rd9 := cells_below rd b9
  have hol : ∀ x ∈ own (w0.heap.size + 5) m5, x < w7.heap.size + 1 := fun x hx => by have := HS8.out.k.dev.olds x hx; omega
  generalize W8.alloc (.cells #[.int .i64 0, .int .i64 1] 3) = w9 at *
  have hcr := crash_w _ _ _ _ (PairG.over n A B) (some ⟨w7.heap.size + 1, 0, none⟩) 2 2 [bit false, bit true] w9 s9.k.dev (fun w' t => Is.turn is9 t (fun b o e hm => by cases e; have := hol _ hm; omega)) (by have h1 := put2_np (Dv.new 320) 80 n A; have h2 := put2_np (put2 (Dv.new 320) 80 n A).flush 80 n B; have h3 : (put2 (Dv.new 320) 80 n A).flush.np = 0 := rfl; show (put2 (put2 (Dv.new 320) 80 n A).flush 80 n B).np ≤ 1000; omega) (by omega)
  have hnp2 : (PairG.over n A B).np ≤ 2 := by
    have h2 := put2_np (put2 (Dv.new 320) 80 n A).flush 80 n B
    have h3 : (put2 (Dv.new 320) 80 n A).flush.np = 0 := rfl
    show (put2 (put2 (Dv.new 320) 80 n A).flush 80 n B).np ≤ 2
    omega
  have HB9 := hid s9.b
  have HO9 := hid s9.k.dev.own_lo
  have HR9 := hid (show w3.heap.size ∉ own (w0.heap.size + 5) m5 ∧ w7.heap.size ∉ own (w0.heap.size + 5) m5 from ⟨s9.k.dev.out rc9 HDP.out.2, s9.k.dev.out rd9 HQ.out.2⟩)
  have HRC := hid rc9
  have HRD := hid rd9
  clear HS8 b9 is9 s9 rc8 rd hz8 rc9 rd9 hol
  refine hcr.mono ?_
  rintro e w10 ⟨rfl, ks, p10, hK, hp10, h10, t10⟩
  have HFA := hid (fallen HAb.out HBb.out false true hK)
  have B10 := hid (HB9.out.trans (t10.below HB9.out.size HO9.out))
  have rc10 := t10.cells HRC.out HR9.out.1
  have rd10 := t10.cells HRD.out HR9.out.2
  have h10' := h10.mono (n' := 40) (lo' := w0.heap.size) (by omega) (Nat.le_refl _)
  clear hcr hK h10 t10 hp10 HRC HRD HR9 HB9 HO9 hnp2
  generalize (PairG.over n A B).crash ks [bit false, bit true] = D at *
  generalize ({ m5 with p := p10 } : Mp) = m at *
  have hpo := popen_w 0 _ _ _ _ D w10 h10' (by rw [HFA.out.blocks]; decide) (by rw [HFA.out.blocks]; decide) B10.out.size HFA.out.down HFA.out.fuse
  rw [HFA.out.blocks, hh] at hpo
  have HRC := hid rc10
  have HRD := hid rd10
  clear h10' rc10 rd10
  go_wp2_with fail
  refine hpo.mono ?_
  rintro e w11 ⟨q, rfl, hq, b11⟩
  have rc11 := cells_below HRC.out b11
  have rd11 := cells_below HRD.out b11
  have B11 := hid (B10.out.trans (b11.mono B10.out.size))
  have hcl := clone_w _ _ _ _ D w11 hq.dev
  have HQ11 := hid hq
  clear hpo hq b11 HRC HRD
  go_wp2_with fail
  refine hcl.mono ?_
  rintro e w12 ⟨c, mc, rfl, hC, b12⟩
  have rc12 := cells_below rc11 b12
  have rd12 := cells_below rd11 b12
  have B12 := hid (B11.out.trans (b12.mono B11.out.size))
  have hq12 := HQ11.out.below b12
  have HAP := hid (show ∀ y ∈ own c mc, y ∉ own (w0.heap.size + 5) m from fun y hy hm => by
    have h1 := HQ11.out.dev.olds y hm
    have h2 := hC.own_lo y hy
    omega)
  have HQC := hid (show q ∉ own c mc from fun hm => by
    have h1 := (Array.getElem?_eq_some_iff.1 HQ11.out.cells).1
    have h2 := hC.own_lo q hm
    omega)
  have hpo := popen_w 0 _ _ _ _ D w12 hC (by rw [HFA.out.blocks]; decide) (by rw [HFA.out.blocks]; decide) b12.size HFA.out.down HFA.out.fuse
  rw [HFA.out.blocks, hh] at hpo
  have HQ12 := hid hq12
  have HQL := hid (show q < w12.heap.size from (Array.getElem?_eq_some_iff.1 hq12.cells).1)
  have HDL := hid hq12.dev.dlt
  have HRC := hid rc12
  have HRD := hid rd12
  clear hcl hC b12 hq12 rc11 rd11 rc12 rd12 HQ11
  go_wp2_with fail
  refine hpo.mono ?_
  rintro e w13 ⟨z, rfl, hz, b13⟩
  have rc13 := cells_below HRC.out b13
  have rd13 := cells_below HRD.out b13
  have B13 := hid (B12.out.trans (b13.mono B12.out.size))
  have hq13 := HQ12.out.below b13
  have hzq : z ≠ q ∧ z ≠ w0.heap.size + 5 := by
    have hzl := hz.lop
    have h1 := hq13.cells
    have h2 := hz.cells
    refine ⟨fun e => ?_, fun e => ?_⟩
    · subst e
      rw [h1] at h2
      have h3 := (Obj.cells.inj (Option.some.inj h2)).1
      have h4 := congrArg (·[0]?) h3
      simp at h4
      have h5 := hz.dev.own_lo c List.mem_cons_self
      have h6 := HQL.out
      have h7 := HDL.out
      have h8 := HAP.out c List.mem_cons_self
      exact h8 (by rw [← h4]; exact List.mem_cons_self)
    · subst e
      rw [hq13.dev.cells] at h2
      have h3 := (Obj.cells.inj (Option.some.inj h2)).1
      have h4 := congrArg (·[0]?) h3
      simp at h4
  have rcs : w13.cell? ⟨w3.heap.size, 0, none⟩ = some (.int .i64 n) ∧ w13.cell? ⟨w3.heap.size, 1, none⟩ = some (.int .u32 (Crc.sum A)) := by simp [World.cell?, rc13]
  obtain ⟨rc0, rc1⟩ := rcs
  have hne : ∀ {x : Nat} {u v : Value}, w13.heap[x]? = some (.cells #[.int .i64 n, u] 68) → x ≠ q ∧ x ≠ z := fun {x u v} hx => ⟨fun e => by
    subst e
    have h2 := hq13.cells
    rw [hx] at h2
    have h3 := (Obj.cells.inj (Option.some.inj h2)).1
    have h4 := congrArg (·[0]?) h3
    simp at h4, fun e => by
    subst e
    have h2 := hz.cells
    rw [hx] at h2
    have h3 := (Obj.cells.inj (Option.some.inj h2)).1
    have h4 := congrArg (·[0]?) h3
    simp at h4⟩
  have hcq := hne (v := .nilIface) rc13
  have hdq := hne (v := .nilIface) rd13
  have HNE := hid (And.intro hcq hdq)
  have HZ13 := hid hz
  have HZQ := hid hzq
  have HRC13 := hid rc13
  have HRD13 := hid rd13
  have hB13 := HB0.out.below B13.out
  have hr1 := PairG.read_w bs _ _ _ _ D q 80 0 n (Crc.sum A) w13 hq13 hB13 hn80 (fun j l hl => (HFA.out.ok.read hl).1) (by decide) (by have := HFA.out.calls; omega) (by decide)
  have HQ13 := hid hq13
  clear hpo hz b13 hq13 hzq hne hcq hdq rc13 rd13 hB13 HQ12 HRC HRD HQL HDL
  by_cases hs : Crc.sum A = Crc.sum B
  · obtain ⟨lx, hx1, hx2⟩ := HFA.out.same hs
    have HS := hid hs
    clear hs
    rw [hx1] at hr1
    go_wp2_with fail
    refine hr1.mono ?_
    rintro e w14 ⟨⟨gx, gcx, rfl, nx, _⟩, k14, t14⟩
    have B14 := hid (B13.out.trans (t14.below B13.out.size (fun x hx => by rcases List.mem_cons.1 hx with rfl | hx; exact HQ13.out.lop; exact HQ13.out.dev.own_lo x hx)))
    have hz14 := HZ13.out.aside HQ13.out t14 HAP.out HQC.out HZQ.out.1 HZQ.out.2
    have rc14 := t14.cells HRC13.out (fun hm => by rcases List.mem_cons.1 hm with e | hm; exact HNE.out.1.1 e; exact HQ13.out.dev.out HRC13.out HDP.out.2 hm)
    have rd14 := t14.cells HRD13.out (fun hm => by rcases List.mem_cons.1 hm with e | hm; exact HNE.out.2.1 e; exact HQ13.out.dev.out HRD13.out HQ.out.2 hm)
    have rds : w14.cell? ⟨w7.heap.size, 0, none⟩ = some (.int .i64 n) ∧ w14.cell? ⟨w7.heap.size, 1, none⟩ = some (.int .u32 (Crc.sum B)) := by simp [World.cell?, rd14]
    obtain ⟨rd0, rd1⟩ := rds
    have hr2 := PairG.read_w bs _ _ _ _ D z 80 0 n (Crc.sum B) w14 hz14 ((HB0.out.below B14.out).mono (by have := B11.out.size; omega)) hn80 (fun j l hl => (HFA.out.ok.read hl).1) (by decide) (by have := HFA.out.calls; omega) (by decide)
    have HZ14 := hid hz14
    have HRC14 := hid rc14
    have HRD14 := hid rd14
    clear hr1 k14 t14 hz14 rc14 rd14 rc0 rc1 HQ13 HZ13 HRC13 HRD13
    rw [hx2] at hr2
    go_wp2_with fail
    refine hr2.mono ?_
    rintro e w15 ⟨⟨gy, gcy, rfl, ny, _⟩, k15, t15⟩
    have B15 := hid (B14.out.trans (t15.below B14.out.size (fun x hx => by have hw := B11.out.size; rcases List.mem_cons.1 hx with rfl | hx; exact Nat.le_trans hw HZ14.out.lop; exact Nat.le_trans hw (HZ14.out.dev.own_lo x hx))))
    have hcc : ∀ {x : Nat} {u : Value}, w14.heap[x]? = some (.cells #[.int .i64 n, u] 68) → x ≠ z → x ≠ c → w15.heap[x]? = some (.cells #[.int .i64 n, u] 68) := fun hx hxz hxc => t15.cells hx (fun hm => by rcases List.mem_cons.1 hm with e | hm; exact hxz e; exact HZ14.out.dev.out hx hxc hm)
    have hdc : ∀ {x : Nat} {u : Value}, w14.heap[x]? = some (.cells #[.int .i64 n, u] 68) → x ≠ c := fun hx e => by
      subst e
      have h2 := HZ14.out.dev.cells
      rw [hx] at h2
      have h3 := (Obj.cells.inj (Option.some.inj h2)).1
      have h4 := congrArg (·.size) h3
      simp at h4
    have rc15 := hcc HRC14.out HNE.out.1.2 (hdc HRC14.out)
    have rd15 := hcc HRD14.out HNE.out.2.2 (hdc HRD14.out)
    have rcs : w15.cell? ⟨w3.heap.size, 1, none⟩ = some (.int .u32 (Crc.sum A)) := by simp [World.cell?, rc15]
    have rds : w15.cell? ⟨w7.heap.size, 1, none⟩ = some (.int .u32 (Crc.sum B)) := by simp [World.cell?, rd15]
    clear hr2 k15 t15 hcc hdc rc15 rd15 rd0 rd1 HRC14 HRD14 HZ14
    have hss : ((Crc.sum A : Nat) : Int) == ((Crc.sum B : Nat) : Int) := by rw [beq_iff_eq, HS.out]
    have HSS := hid hss
    clear hss
    generalize Crc.sum A = sA at *
    generalize Crc.sum B = sB at *
    have hss := HSS.out
    go_wp2_with fail
    go_ret
    exact ⟨rfl, HW0.out.trans (B15.out.mono HW0.out.size)⟩
  · obtain ⟨D1, c1, hx1⟩ := HFA.out.elder hs
    obtain ⟨D2, c2, hx2⟩ := HFA.out.newer hs
    have HS := hid hs
    clear hs
    rw [hx1] at hr1
    go_wp2_with fail
    refine hr1.mono ?_
    rintro e w14 ⟨⟨gx, gcx, rfl, nx, _⟩, k14, t14⟩
    have B14 := hid (B13.out.trans (t14.below B13.out.size (fun x hx => by rcases List.mem_cons.1 hx with rfl | hx; exact HQ13.out.lop; exact HQ13.out.dev.own_lo x hx)))
    have hz14 := HZ13.out.aside HQ13.out t14 HAP.out HQC.out HZQ.out.1 HZQ.out.2
    have rc14 := t14.cells HRC13.out (fun hm => by rcases List.mem_cons.1 hm with e | hm; exact HNE.out.1.1 e; exact HQ13.out.dev.out HRC13.out HDP.out.2 hm)
    have rd14 := t14.cells HRD13.out (fun hm => by rcases List.mem_cons.1 hm with e | hm; exact HNE.out.2.1 e; exact HQ13.out.dev.out HRD13.out HQ.out.2 hm)
    have rds : w14.cell? ⟨w7.heap.size, 0, none⟩ = some (.int .i64 n) ∧ w14.cell? ⟨w7.heap.size, 1, none⟩ = some (.int .u32 (Crc.sum B)) := by simp [World.cell?, rd14]
    obtain ⟨rd0, rd1⟩ := rds
    have hr2 := PairG.read_w bs _ _ _ _ D z 80 0 n (Crc.sum B) w14 hz14 ((HB0.out.below B14.out).mono (by have := B11.out.size; omega)) hn80 (fun j l hl => (HFA.out.ok.read hl).1) (by decide) (by have := HFA.out.calls; omega) (by decide)
    have HZ14 := hid hz14
    have HRC14 := hid rc14
    have HRD14 := hid rd14
    clear hr1 k14 t14 hz14 rc14 rd14 rc0 rc1 HQ13 HZ13 HRC13 HRD13
    rw [hx2] at hr2
    go_wp2_with fail
    refine hr2.mono ?_
    rintro e w15 ⟨⟨gy, gcy, rfl, ny, _⟩, k15, t15⟩
    have B15 := hid (B14.out.trans (t15.below B14.out.size (fun x hx => by have hw := B11.out.size; rcases List.mem_cons.1 hx with rfl | hx; exact Nat.le_trans hw HZ14.out.lop; exact Nat.le_trans hw (HZ14.out.dev.own_lo x hx))))
    have hcc : ∀ {x : Nat} {u : Value}, w14.heap[x]? = some (.cells #[.int .i64 n, u] 68) → x ≠ z → x ≠ c → w15.heap[x]? = some (.cells #[.int .i64 n, u] 68) := fun hx hxz hxc => t15.cells hx (fun hm => by rcases List.mem_cons.1 hm with e | hm; exact hxz e; exact HZ14.out.dev.out hx hxc hm)
    have hdc : ∀ {x : Nat} {u : Value}, w14.heap[x]? = some (.cells #[.int .i64 n, u] 68) → x ≠ c := fun hx e => by
      subst e
      have h2 := HZ14.out.dev.cells
      rw [hx] at h2
      have h3 := (Obj.cells.inj (Option.some.inj h2)).1
      have h4 := congrArg (·.size) h3
      simp at h4
    have rc15 := hcc HRC14.out HNE.out.1.2 (hdc HRC14.out)
    have rd15 := hcc HRD14.out HNE.out.2.2 (hdc HRD14.out)
    have rcs : w15.cell? ⟨w3.heap.size, 1, none⟩ = some (.int .u32 (Crc.sum A)) := by simp [World.cell?, rc15]
    have rds : w15.cell? ⟨w7.heap.size, 1, none⟩ = some (.int .u32 (Crc.sum B)) := by simp [World.cell?, rd15]
    have NX := hid (nums_turn nx t15 (PAt.nou8 HZ14.out))
    clear hr2 k15 t15 hcc hdc rc15 rd15 rd0 rd1 HRC14 HRD14 HZ14
    have hss : (((Crc.sum A : Nat) : Int) == ((Crc.sum B : Nat) : Int)) = false := by rw [beq_eq_false_iff_ne]; have hs := HS.out; omega
    generalize Crc.sum A = sA at *
    generalize Crc.sum B = sB at *
    have NY := hid ny
    clear ny
    have BA := B15
    have hbk := block_w _ _ _ l1 w15 (HL1.out.below (HW0.out.trans (BA.out.mono HW0.out.size))) HN1.out
    rw [← HA.out] at hbk
    go_wp2_with fail
    refine hbk.mono ?_
    rintro e v1 ⟨h1, hc1, rfl, m1, _, b1⟩
    have hsm := RefW.same_w _ 256 gcx A _ 256 hc1 A v1 (NX.out.below b1) m1
    rw [decide_eq_true rfl] at hsm
    have BB1 := hid (BA.out.trans (b1.mono BA.out.size))
    have NY := hid (NY.out.below b1)
    clear hbk m1 b1
    go_wp2_with fail
    refine hsm.mono ?_
    rintro e u1 ⟨rfl, d11⟩
    have BC1 := hid (BB1.out.trans (d11.mono BB1.out.size))
    have NY := hid (NY.out.below d11)
    clear hsm d11 BB1
    have hbk := block_w _ _ _ l2 u1 (HL2.out.below (HW0.out.trans (BC1.out.mono HW0.out.size))) HN2.out
    rw [← HBB.out] at hbk
    go_wp2_with fail
    refine hbk.mono ?_
    rintro e v2 ⟨h2, hc2, rfl, m2, _, b2⟩
    have hsm := RefW.same_w _ 256 gcy B _ 256 hc2 B v2 (NY.out.below b2) m2
    rw [decide_eq_true rfl] at hsm
    have BB2 := hid (BC1.out.trans (b2.mono BC1.out.size))
    have hq0 := trivial
    clear hbk m2 b2
    go_wp2_with fail
    refine hsm.mono ?_
    rintro e u2 ⟨rfl, d12⟩
    have BC2 := hid (BB2.out.trans (d12.mono BB2.out.size))
    have hq0 := trivial
    clear hsm d12 BB2
    have BL := BC2
    go_wp2_with fail
    go_ret
    exact ⟨rfl, HW0.out.trans (BL.out.mono HW0.out.size)⟩
set_option maxHeartbeats 16000000 in
theorem at00 (bs : List Addr) (a0 : Int) (a1 : Option Addr) (len1 cap1 : Nat) (l1 : List Nat) (a2 : Option Addr) (len2 cap2 : Nat) (l2 : List Nat) (w : World) (hB : Ev w w.heap.size bs five) (hl1 : Nums .u8 w a1 len1 cap1 l1) (hb1 : Crc.Bytes l1) (hn1 : len1 ≤ 256) (hl2 : Nums .u8 w a2 len2 cap2 l2) (hb2 : Crc.Bytes l2) (hn2 : len2 ≤ 256) (r0 : -9223372036854775808 ≤ a0 ∧ a0 ≤ 9223372036854775807) :
    Calls Tryd.prog 11 #[.int .i64 a0, .slice a1 len1 cap1, .slice a2 len2 cap2, .bool false, .bool false] w fun e w' => e = .returned (.bool true) ∧ Below w.heap.size w w' := by
  obtain ⟨A, hA⟩ : ∃ A, A = Crc.pad l1 := ⟨_, rfl⟩
  obtain ⟨B, hBB⟩ : ∃ B, B = Crc.pad l2 := ⟨_, rfl⟩
  have hAb : Blk A := by rw [hA]; exact pad_blk hb1 (by rw [hl1.len]; exact hn1)
  have hBb : Blk B := by rw [hBB]; exact pad_blk hb2 (by rw [hl2.len]; exact hn2)
  have HA := hid hA
  have HBB := hid hBB
  have HAb := hid hAb
  have HBb := hid hBb
  clear hA hBB hAb hBb
  have hh : GeoW.half 320 = 80 := by decide
  obtain ⟨n, hnn⟩ : ∃ n : Nat, a0 % 80 = n := ⟨(a0 % 80).toNat, by have := Int.emod_nonneg a0 (b := 80) (by omega); omega⟩
  have hn80 : n < 80 := by have := Int.emod_lt_of_pos a0 (b := 80) (by omega); omega
  have d1 : decide ((256 : Int) < (len1 : Int)) = false := decide_eq_false (by omega)
  have d2 : decide ((256 : Int) < (len2 : Int)) = false := decide_eq_false (by omega)
  have HN1 := hid hn1
  have HN2 := hid hn2
  clear hn1 hn2
  have HL1 := hid hl1
  have HL2 := hid hl2
  clear hl1 hl2
  go_enter Tryd.func11, Tryd.ntmps11
  go_wp2_with fail
  refine (first_w bs _ hB).mono ?_
  rintro e w0 ⟨rfl, hb0⟩
  have HB0 := hid ((hB.below hb0).mono hb0.size)
  have HW0 := hid hb0
  clear hB hb0
  go_wp2_with fail
  refine (NumW.number_w a0 80 _ (by decide) (by decide) r0.1 r0.2).mono ?_
  rintro e w' ⟨rfl, rfl⟩
  rw [hnn]
  clear hnn r0
  go_wp2_with fail
  refine (ses_open 320 _ (by omega) (by omega)).mono ?_
  rintro e w1 ⟨p, rfl, s1⟩
  rw [hh] at s1
  have HS1 := hid s1
  have hbk := block_w _ _ _ l1 w1 (HL1.out.below (HW0.out.trans (s1.b.mono HW0.out.size))) HN1.out
  rw [← HA.out] at hbk
  clear s1
  go_wp2_with fail
  refine hbk.mono ?_
  rintro e w2 ⟨g2, gc2, rfl, n2, hg2, b2⟩
  have s2 := HS1.out.below b2
  have hw := ses_write n _ gc2 A _ s2 hn80 n2 HAb.out (by decide) (by decide)
  clear hbk n2 hg2 b2 HS1 s2
  go_wp2_with fail
  refine hw.mono ?_
  rintro e w3 ⟨rfl, s3, t3⟩
  have s4 := s3.below ((Below.refl w3.heap.size w3).alloc (Nat.le_refl _) (.cells #[.int .i64 n, .int .u32 (Crc.sum A)] 68))
  have rc : (w3.alloc (.cells #[.int .i64 n, .int .u32 (Crc.sum A)] 68)).heap[w3.heap.size]? = some (.cells #[.int .i64 n, .int .u32 (Crc.sum A)] 68) := alloc_at rfl _
  have HP3 := hid s3.plt
  have HD3 := hid s3.dlt
  clear hw s3 t3
  go_wp2_with fail
  generalize w3.alloc (.cells #[.int .i64 n, .int .u32 (Crc.sum A)] 68) = w4 at *
  have hnp : (put2 (Dv.new 320) 80 n A).np ≤ 2 := put2_np (Dv.new 320) 80 n A
  have hfl := ses_flush _ s4 (by decide) (by omega) (by show 0+1+1 < _; decide)
  have hdp : w3.heap.size ≠ p ∧ w3.heap.size ≠ w0.heap.size + 5 := ⟨Nat.ne_of_gt HP3.out, Nat.ne_of_gt HD3.out⟩
  have HDP := hid hdp
  have HS4 := hid s4
  clear s4 hdp HP3 HD3
  refine hfl.mono ?_
  rintro e w5 ⟨rfl, m5, s5, t5⟩
  have rc5 := HS4.out.cells t5 rc HDP.out.1 HDP.out.2
  have s5' := s5.mono (n' := 8) (by omega)
  have HS5 := hid s5'
  have hbk := block_w _ _ _ l2 w5 (HL2.out.below (HW0.out.trans (s5.b.mono HW0.out.size))) HN2.out
  rw [← HBB.out] at hbk
  clear hfl s5 t5 s5' HS4 rc hnp
  go_wp2_with fail
  refine hbk.mono ?_
  rintro e w6 ⟨g6, gc6, rfl, n6, hg6, b6⟩
  have s6 := HS5.out.below b6
  have rc6 := cells_below rc5 b6
  have hw := ses_write n _ gc6 B _ s6 hn80 n6 HBb.out (by decide) (by show 0+1+1+1 < _; decide)
  have HS6 := hid s6
  clear hbk n6 hg6 b6 s6 rc5 HS5
  go_wp2_with fail
  refine hw.mono ?_
  rintro e w7 ⟨rfl, s7, t7⟩
  have rc7 := HS6.out.cells t7 rc6 HDP.out.1 HDP.out.2
  have a7 := (Below.refl w7.heap.size w7).alloc (Nat.le_refl _) (.cells #[.int .i64 n, .int .u32 (Crc.sum B)] 68)
  have s8 := s7.below a7
  have rc8 := cells_below rc7 a7
  have rd : (w7.alloc (.cells #[.int .i64 n, .int .u32 (Crc.sum B)] 68)).heap[w7.heap.size]? = some (.cells #[.int .i64 n, .int .u32 (Crc.sum B)] 68) := alloc_at rfl _
  have HQ := hid (show w7.heap.size ≠ p ∧ w7.heap.size ≠ w0.heap.size + 5 from ⟨Nat.ne_of_gt s7.plt, Nat.ne_of_gt s7.dlt⟩)
  have HS8 := hid s8
  clear hw s7 t7 s8 a7 rc7 rc6 HS6
  go_wp2_with fail
  have hz8 : (w7.alloc (.cells #[.int .i64 n, .int .u32 (Crc.sum B)] 68)).heap.size = w7.heap.size + 1 := by simp
  generalize w7.alloc (.cells #[.int .i64 n, .int .u32 (Crc.sum B)] 68) = W8 at *
  have b9 := (Below.refl W8.heap.size W8).alloc (Nat.le_refl _) (.cells #[.int .i64 0, .int .i64 0] 3)
  have is9 := is_two W8 0 0 3
  rw [hz8] at is9
  have s9 := HS8.out.below b9
  have rc9 := cells_below rc8 b9
  have rd9 := cells_below rd b9
  have hol : ∀ x ∈ own (w0.heap.size + 5) m5, x < w7.heap.size + 1 := fun x hx => by have := HS8.out.k.dev.olds x hx; omega
  generalize W8.alloc (.cells #[.int .i64 0, .int .i64 0] 3) = w9 at *
  have hcr := crash_w _ _ _ _ (PairG.over n A B) (some ⟨w7.heap.size + 1, 0, none⟩) 2 2 [bit false, bit false] w9 s9.k.dev (fun w' t => Is.turn is9 t (fun b o e hm => by cases e; have := hol _ hm; omega)) (by have h1 := put2_np (Dv.new 320) 80 n A; have h2 := put2_np (put2 (Dv.new 320) 80 n A).flush 80 n B; have h3 : (put2 (Dv.new 320) 80 n A).flush.np = 0 := rfl; show (put2 (put2 (Dv.new 320) 80 n A).flush 80 n B).np ≤ 1000; omega) (by omega)
  have hnp2 : (PairG.over n A B).np ≤ 2 := by
    have h2 := put2_np (put2 (Dv.new 320) 80 n A).flush 80 n B
    have h3 : (put2 (Dv.new 320) 80 n A).flush.np = 0 := rfl
    show (put2 (put2 (Dv.new 320) 80 n A).flush 80 n B).np ≤ 2
    omega
  have HB9 := hid s9.b
  have HO9 := hid s9.k.dev.own_lo
  have HR9 := hid (show w3.heap.size ∉ own (w0.heap.size + 5) m5 ∧ w7.heap.size ∉ own (w0.heap.size + 5) m5 from ⟨s9.k.dev.out rc9 HDP.out.2, s9.k.dev.out rd9 HQ.out.2⟩)
  have HRC := hid rc9
  have HRD := hid rd9
  clear HS8 b9 is9 s9 rc8 rd hz8 rc9 rd9 hol
  refine hcr.mono ?_
  rintro e w10 ⟨rfl, ks, p10, hK, hp10, h10, t10⟩
  have HFA := hid (fallen HAb.out HBb.out false false hK)
  have B10 := hid (HB9.out.trans (t10.below HB9.out.size HO9.out))
  have rc10 := t10.cells HRC.out HR9.out.1
  have rd10 := t10.cells HRD.out HR9.out.2
  have h10' := h10.mono (n' := 40) (lo' := w0.heap.size) (by omega) (Nat.le_refl _)
  clear hcr hK h10 t10 hp10 HRC HRD HR9 HB9 HO9 hnp2
  generalize (PairG.over n A B).crash ks [bit false, bit false] = D at *
  generalize ({ m5 with p := p10 } : Mp) = m at *
  have hpo := popen_w 0 _ _ _ _ D w10 h10' (by rw [HFA.out.blocks]; decide) (by rw [HFA.out.blocks]; decide) B10.out.size HFA.out.down HFA.out.fuse
  rw [HFA.out.blocks, hh] at hpo
  have HRC := hid rc10
  have HRD := hid rd10
  clear h10' rc10 rd10
  go_wp2_with fail
  refine hpo.mono ?_
  rintro e w11 ⟨q, rfl, hq, b11⟩
  have rc11 := cells_below HRC.out b11
  have rd11 := cells_below HRD.out b11
  have B11 := hid (B10.out.trans (b11.mono B10.out.size))
  have hcl := clone_w _ _ _ _ D w11 hq.dev
  have HQ11 := hid hq
  clear hpo hq b11 HRC HRD
  go_wp2_with fail
  refine hcl.mono ?_
  rintro e w12 ⟨c, mc, rfl, hC, b12⟩
  have rc12 := cells_below rc11 b12
  have rd12 := cells_below rd11 b12
  have B12 := hid (B11.out.trans (b12.mono B11.out.size))
  have hq12 := HQ11.out.below b12
  have HAP := hid (show ∀ y ∈ own c mc, y ∉ own (w0.heap.size + 5) m from fun y hy hm => by
    have h1 := HQ11.out.dev.olds y hm
    have h2 := hC.own_lo y hy
    omega)
  have HQC := hid (show q ∉ own c mc from fun hm => by
    have h1 := (Array.getElem?_eq_some_iff.1 HQ11.out.cells).1
    have h2 := hC.own_lo q hm
    omega)
  have hpo := popen_w 0 _ _ _ _ D w12 hC (by rw [HFA.out.blocks]; decide) (by rw [HFA.out.blocks]; decide) b12.size HFA.out.down HFA.out.fuse
  rw [HFA.out.blocks, hh] at hpo
  have HQ12 := hid hq12
  have HQL := hid (show q < w12.heap.size from (Array.getElem?_eq_some_iff.1 hq12.cells).1)
  have HDL := hid hq12.dev.dlt
  have HRC := hid rc12
  have HRD := hid rd12
  clear hcl hC b12 hq12 rc11 rd11 rc12 rd12 HQ11
  go_wp2_with fail
  refine hpo.mono ?_
  rintro e w13 ⟨z, rfl, hz, b13⟩
  have rc13 := cells_below HRC.out b13
  have rd13 := cells_below HRD.out b13
  have B13 := hid (B12.out.trans (b13.mono B12.out.size))
  have hq13 := HQ12.out.below b13
  have hzq : z ≠ q ∧ z ≠ w0.heap.size + 5 := by
    have hzl := hz.lop
    have h1 := hq13.cells
    have h2 := hz.cells
    refine ⟨fun e => ?_, fun e => ?_⟩
    · subst e
      rw [h1] at h2
      have h3 := (Obj.cells.inj (Option.some.inj h2)).1
      have h4 := congrArg (·[0]?) h3
      simp at h4
      have h5 := hz.dev.own_lo c List.mem_cons_self
      have h6 := HQL.out
      have h7 := HDL.out
      have h8 := HAP.out c List.mem_cons_self
      exact h8 (by rw [← h4]; exact List.mem_cons_self)
    · subst e
      rw [hq13.dev.cells] at h2
      have h3 := (Obj.cells.inj (Option.some.inj h2)).1
      have h4 := congrArg (·[0]?) h3
      simp at h4
  have rcs : w13.cell? ⟨w3.heap.size, 0, none⟩ = some (.int .i64 n) ∧ w13.cell? ⟨w3.heap.size, 1, none⟩ = some (.int .u32 (Crc.sum A)) := by simp [World.cell?, rc13]
  obtain ⟨rc0, rc1⟩ := rcs
  have hne : ∀ {x : Nat} {u v : Value}, w13.heap[x]? = some (.cells #[.int .i64 n, u] 68) → x ≠ q ∧ x ≠ z := fun {x u v} hx => ⟨fun e => by
    subst e
    have h2 := hq13.cells
    rw [hx] at h2
    have h3 := (Obj.cells.inj (Option.some.inj h2)).1
    have h4 := congrArg (·[0]?) h3
    simp at h4, fun e => by
    subst e
    have h2 := hz.cells
    rw [hx] at h2
    have h3 := (Obj.cells.inj (Option.some.inj h2)).1
    have h4 := congrArg (·[0]?) h3
    simp at h4⟩
  have hcq := hne (v := .nilIface) rc13
  have hdq := hne (v := .nilIface) rd13
  have HNE := hid (And.intro hcq hdq)
  have HZ13 := hid hz
  have HZQ := hid hzq
  have HRC13 := hid rc13
  have HRD13 := hid rd13
  have hB13 := HB0.out.below B13.out
  have hr1 := PairG.read_w bs _ _ _ _ D q 80 0 n (Crc.sum A) w13 hq13 hB13 hn80 (fun j l hl => (HFA.out.ok.read hl).1) (by decide) (by have := HFA.out.calls; omega) (by decide)
  have HQ13 := hid hq13
  clear hpo hz b13 hq13 hzq hne hcq hdq rc13 rd13 hB13 HQ12 HRC HRD HQL HDL
  by_cases hs : Crc.sum A = Crc.sum B
  · obtain ⟨lx, hx1, hx2⟩ := HFA.out.same hs
    have HS := hid hs
    clear hs
    rw [hx1] at hr1
    go_wp2_with fail
    refine hr1.mono ?_
    rintro e w14 ⟨⟨gx, gcx, rfl, nx, _⟩, k14, t14⟩
    have B14 := hid (B13.out.trans (t14.below B13.out.size (fun x hx => by rcases List.mem_cons.1 hx with rfl | hx; exact HQ13.out.lop; exact HQ13.out.dev.own_lo x hx)))
    have hz14 := HZ13.out.aside HQ13.out t14 HAP.out HQC.out HZQ.out.1 HZQ.out.2
    have rc14 := t14.cells HRC13.out (fun hm => by rcases List.mem_cons.1 hm with e | hm; exact HNE.out.1.1 e; exact HQ13.out.dev.out HRC13.out HDP.out.2 hm)
    have rd14 := t14.cells HRD13.out (fun hm => by rcases List.mem_cons.1 hm with e | hm; exact HNE.out.2.1 e; exact HQ13.out.dev.out HRD13.out HQ.out.2 hm)
    have rds : w14.cell? ⟨w7.heap.size, 0, none⟩ = some (.int .i64 n) ∧ w14.cell? ⟨w7.heap.size, 1, none⟩ = some (.int .u32 (Crc.sum B)) := by simp [World.cell?, rd14]
    obtain ⟨rd0, rd1⟩ := rds
    have hr2 := PairG.read_w bs _ _ _ _ D z 80 0 n (Crc.sum B) w14 hz14 ((HB0.out.below B14.out).mono (by have := B11.out.size; omega)) hn80 (fun j l hl => (HFA.out.ok.read hl).1) (by decide) (by have := HFA.out.calls; omega) (by decide)
    have HZ14 := hid hz14
    have HRC14 := hid rc14
    have HRD14 := hid rd14
    clear hr1 k14 t14 hz14 rc14 rd14 rc0 rc1 HQ13 HZ13 HRC13 HRD13
    rw [hx2] at hr2
    go_wp2_with fail
    refine hr2.mono ?_
    rintro e w15 ⟨⟨gy, gcy, rfl, ny, _⟩, k15, t15⟩
    have B15 := hid (B14.out.trans (t15.below B14.out.size (fun x hx => by have hw := B11.out.size; rcases List.mem_cons.1 hx with rfl | hx; exact Nat.le_trans hw HZ14.out.lop; exact Nat.le_trans hw (HZ14.out.dev.own_lo x hx))))
    have hcc : ∀ {x : Nat} {u : Value}, w14.heap[x]? = some (.cells #[.int .i64 n, u] 68) → x ≠ z → x ≠ c → w15.heap[x]? = some (.cells #[.int .i64 n, u] 68) := fun hx hxz hxc => t15.cells hx (fun hm => by rcases List.mem_cons.1 hm with e | hm; exact hxz e; exact HZ14.out.dev.out hx hxc hm)
    have hdc : ∀ {x : Nat} {u : Value}, w14.heap[x]? = some (.cells #[.int .i64 n, u] 68) → x ≠ c := fun hx e => by
      subst e
      have h2 := HZ14.out.dev.cells
      rw [hx] at h2
      have h3 := (Obj.cells.inj (Option.some.inj h2)).1
      have h4 := congrArg (·.size) h3
      simp at h4
    have rc15 := hcc HRC14.out HNE.out.1.2 (hdc HRC14.out)
    have rd15 := hcc HRD14.out HNE.out.2.2 (hdc HRD14.out)
    have rcs : w15.cell? ⟨w3.heap.size, 1, none⟩ = some (.int .u32 (Crc.sum A)) := by simp [World.cell?, rc15]
    have rds : w15.cell? ⟨w7.heap.size, 1, none⟩ = some (.int .u32 (Crc.sum B)) := by simp [World.cell?, rd15]
    clear hr2 k15 t15 hcc hdc rc15 rd15 rd0 rd1 HRC14 HRD14 HZ14
    have hss : ((Crc.sum A : Nat) : Int) == ((Crc.sum B : Nat) : Int) := by rw [beq_iff_eq, HS.out]
    have HSS := hid hss
    clear hss
    generalize Crc.sum A = sA at *
    generalize Crc.sum B = sB at *
    have hss := HSS.out
    go_wp2_with fail
    go_ret
    exact ⟨rfl, HW0.out.trans (B15.out.mono HW0.out.size)⟩
  · obtain ⟨D1, c1, hx1⟩ := HFA.out.elder hs
    obtain ⟨D2, c2, hx2⟩ := HFA.out.newer hs
    have HS := hid hs
    clear hs
    rw [hx1] at hr1
    go_wp2_with fail
    refine hr1.mono ?_
    rintro e w14 ⟨⟨gx, gcx, rfl, nx, _⟩, k14, t14⟩
    have B14 := hid (B13.out.trans (t14.below B13.out.size (fun x hx => by rcases List.mem_cons.1 hx with rfl | hx; exact HQ13.out.lop; exact HQ13.out.dev.own_lo x hx)))
    have hz14 := HZ13.out.aside HQ13.out t14 HAP.out HQC.out HZQ.out.1 HZQ.out.2
    have rc14 := t14.cells HRC13.out (fun hm => by rcases List.mem_cons.1 hm with e | hm; exact HNE.out.1.1 e; exact HQ13.out.dev.out HRC13.out HDP.out.2 hm)
    have rd14 := t14.cells HRD13.out (fun hm => by rcases List.mem_cons.1 hm with e | hm; exact HNE.out.2.1 e; exact HQ13.out.dev.out HRD13.out HQ.out.2 hm)
    have rds : w14.cell? ⟨w7.heap.size, 0, none⟩ = some (.int .i64 n) ∧ w14.cell? ⟨w7.heap.size, 1, none⟩ = some (.int .u32 (Crc.sum B)) := by simp [World.cell?, rd14]
    obtain ⟨rd0, rd1⟩ := rds
    have hr2 := PairG.read_w bs _ _ _ _ D z 80 0 n (Crc.sum B) w14 hz14 ((HB0.out.below B14.out).mono (by have := B11.out.size; omega)) hn80 (fun j l hl => (HFA.out.ok.read hl).1) (by decide) (by have := HFA.out.calls; omega) (by decide)
    have HZ14 := hid hz14
    have HRC14 := hid rc14
    have HRD14 := hid rd14
    clear hr1 k14 t14 hz14 rc14 rd14 rc0 rc1 HQ13 HZ13 HRC13 HRD13
    rw [hx2] at hr2
    go_wp2_with fail
    refine hr2.mono ?_
    rintro e w15 ⟨⟨ya, hya, rfl⟩, k15, t15⟩
    have B15 := hid (B14.out.trans (t15.below B14.out.size (fun x hx => by have hw := B11.out.size; rcases List.mem_cons.1 hx with rfl | hx; exact Nat.le_trans hw HZ14.out.lop; exact Nat.le_trans hw (HZ14.out.dev.own_lo x hx))))
    have hcc : ∀ {x : Nat} {u : Value}, w14.heap[x]? = some (.cells #[.int .i64 n, u] 68) → x ≠ z → x ≠ c → w15.heap[x]? = some (.cells #[.int .i64 n, u] 68) := fun hx hxz hxc => t15.cells hx (fun hm => by rcases List.mem_cons.1 hm with e | hm; exact hxz e; exact HZ14.out.dev.out hx hxc hm)
    have hdc : ∀ {x : Nat} {u : Value}, w14.heap[x]? = some (.cells #[.int .i64 n, u] 68) → x ≠ c := fun hx e => by
      subst e
      have h2 := HZ14.out.dev.cells
      rw [hx] at h2
      have h3 := (Obj.cells.inj (Option.some.inj h2)).1
      have h4 := congrArg (·.size) h3
      simp at h4
    have rc15 := hcc HRC14.out HNE.out.1.2 (hdc HRC14.out)
    have rd15 := hcc HRD14.out HNE.out.2.2 (hdc HRD14.out)
    have rcs : w15.cell? ⟨w3.heap.size, 1, none⟩ = some (.int .u32 (Crc.sum A)) := by simp [World.cell?, rc15]
    have rds : w15.cell? ⟨w7.heap.size, 1, none⟩ = some (.int .u32 (Crc.sum B)) := by simp [World.cell?, rd15]
    have NX := hid (nums_turn nx t15 (PAt.nou8 HZ14.out))
    clear hr2 k15 t15 hcc hdc rc15 rd15 rd0 rd1 HRC14 HRD14 HZ14
    have hss : (((Crc.sum A : Nat) : Int) == ((Crc.sum B : Nat) : Int)) = false := by rw [beq_eq_false_iff_ne]; have hs := HS.out; omega
    generalize Crc.sum A = sA at *
    generalize Crc.sum B = sB at *
    have BA := B15
    have hbk := block_w _ _ _ l1 w15 (HL1.out.below (HW0.out.trans (BA.out.mono HW0.out.size))) HN1.out
    rw [← HA.out] at hbk
    go_wp2_with fail
    refine hbk.mono ?_
    rintro e v1 ⟨h1, hc1, rfl, m1, _, b1⟩
    have hsm := RefW.same_w _ 256 gcx A _ 256 hc1 A v1 (NX.out.below b1) m1
    rw [decide_eq_true rfl] at hsm
    have BB1 := hid (BA.out.trans (b1.mono BA.out.size))
    have hq0 := trivial
    clear hbk m1 b1
    go_wp2_with fail
    refine hsm.mono ?_
    rintro e u1 ⟨rfl, d11⟩
    have BC1 := hid (BB1.out.trans (d11.mono BB1.out.size))
    have hq0 := trivial
    clear hsm d11 BB1
    have BL := BC1
    go_wp2_with fail
    go_ret
    exact ⟨rfl, HW0.out.trans (BL.out.mono HW0.out.size)⟩
theorem walk (a0 : Int) (a1 : Option Addr) (len1 cap1 : Nat) (z1 : List Int) (a2 : Option Addr) (len2 cap2 : Nat) (z2 : List Int) (a3 a4 : Bool) (w : World) (hE : Err.All w [3, 0, 2, 1, 4]) (w0 : (Lit.int .i64 a0).wf = true) (w1 : IsRow .u8 w a1 len1 cap1 z1) (w2 : IsRow .u8 w a2 len2 cap2 z2) :
    Calls Tryd.prog 11 #[.int .i64 a0, .slice a1 len1 cap1, .slice a2 len2 cap2, .bool a3, .bool a4] w fun e w' => e = .returned (.bool true) ∧ Below w.heap.size w w' := by
  obtain ⟨bs, hB⟩ := Ev.of_all hE five rfl (by decide)
  obtain ⟨l1, hl1, hx1⟩ := nums_of rfl w1
  obtain ⟨l2, hl2, hx2⟩ := nums_of rfl w2
  have r0 := int_of w0
  by_cases h1 : 256 < len1
  · exact over bs a0 a1 len1 cap1 a2 len2 cap2 a3 a4 w hB h1
  · by_cases h2 : 256 < len2
    · exact over2 bs a0 a1 len1 cap1 a2 len2 cap2 a3 a4 w hB (by omega) h2
    · cases a3 <;> cases a4
      · exact at00 bs a0 a1 len1 cap1 l1 a2 len2 cap2 l2 w hB hl1 hx1 (by omega) hl2 hx2 (by omega) r0
      · exact at01 bs a0 a1 len1 cap1 l1 a2 len2 cap2 l2 w hB hl1 hx1 (by omega) hl2 hx2 (by omega) r0
      · exact at10 bs a0 a1 len1 cap1 l1 a2 len2 cap2 l2 w hB hl1 hx1 (by omega) hl2 hx2 (by omega) r0
      · exact at11 bs a0 a1 len1 cap1 l1 a2 len2 cap2 l2 w hB hl1 hx1 (by omega) hl2 hx2 (by omega) r0
end Go.Proofs.YtlljpljfmaaejaaDoor.pairFalls
