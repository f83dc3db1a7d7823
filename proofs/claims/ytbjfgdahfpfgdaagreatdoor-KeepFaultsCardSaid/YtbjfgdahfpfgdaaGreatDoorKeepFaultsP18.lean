/- A store that takes what was written; The walk of a store's Commit; The walks of package dev that only ask, and Arm; A store over a device that stands, as a law sees it: its pages, what was changed, how many commits. -/
import Derived.Test.YtbjfgdahfpfgdaaGreatDoorKeepFaultsP12
import Derived.Test.YtbjfgdahfpfgdaaGreatDoorKeepFaultsP11
import Derived.Test.YtbjfgdahfpfgdaaGreatDoorKeepFaultsP17
import Derived.BigRegion
import Derived.Test.YtbjfgdahfpfgdaaGreatDoorKeepFaultsP3
import Derived.Test.YtbjfgdahfpfgdaaGreatDoorKeepFaultsP14
namespace Go.Proofs.YtbjfgdahfpfgdaaGreatDoor.PgW
open Go Go.RowKit Go.Maps Go.Proofs.YtbjfgdahfpfgdaaGreatDoor.Mem Go.Proofs.YtbjfgdahfpfgdaaGreatDoor.MapsW Go.Proofs.YtbjfgdahfpfgdaaGreatDoor.SeeW Go.Proofs.YtbjfgdahfpfgdaaGreatDoor.DevG Go.Proofs.YtbjfgdahfpfgdaaGreatDoor.PairG Go.Proofs.YtbjfgdahfpfgdaaGreatDoor.RefsW Go.Proofs.YtbjfgdahfpfgdaaGreatDoor.PgP
set_option linter.unusedVariables false
set_option maxRecDepth 100000

theorem SAt.assign {w w' : World} {lo n nl B R : Nat} {m : Mp} {D : Dv} {I : Si} {S : St} {X tb tc a ep : Nat} {vn vp vf : Value} {y : Lay} (k : SAt w lo n m D I S) (l : LW w B nl X tb tc a vn vp vf y) (h7 : y.tabs.length = 7) (hnl : nl ≤ n) (hlB : lo ≤ B)
    (hs : I.s < B ∧ I.p < B) (hsep : ∀ z ∈ own I.d m, z < B ∨ R ≤ z) (haR : a < R ∧ tb < R) (ht : Turn [I.s] (w.alloc (.map #[] 0)) w')
    (hc : w'.heap[I.s]? = some (.cells (scells I.d I.p ep (some ⟨tb, 0, none⟩) 7 tc tb tc a w.heap.size I.z) 93)) :
    SAt w' lo n m D { I with a := a, o := w.heap.size, ra := some ⟨tb, 0, none⟩, rc := tc, tb := tb, tc := tc } ⟨ep, y.tabs, y.tabs, y.at_, fun _ => none⟩ := by
  have hb := (Below.refl w.heap.size w).alloc (Nat.le_refl _) (.map #[] 0)
  have k1 := k.below hb
  have l1 := l.below hb
  obtain ⟨n1, n2, n3, n4, n5⟩ := k.ne
  have hge := l.ge
  have hBa := hge a (by simp)
  have hBt := hge tb (by simp)
  obtain ⟨ka, hka⟩ := l1.at_
  obtain ⟨ka0, hka0⟩ := l.at_
  obtain ⟨es, ck, hab⟩ := hka0.block
  have haw := (Array.getElem?_eq_some_iff.1 hab).1
  have htw := (own_tab l.tabs).2
  have hlt := k.own_lt
  have hsl := hlt I.s (by simp)
  have hpl := hlt I.p (by simp)
  have hlo := k.slo.1
  have hno : NoCells (w.alloc (.map #[] 0)) I.s ∨ ∃ v, (w.alloc (.map #[] 0)).cell? ⟨I.s, 0, none⟩ = some v ∧ ∀ z, v ≠ .int .u8 z := .inr ⟨_, k1.c.1, fun z e => by cases e⟩
  have hownlt : ∀ z ∈ own I.d m, z < w.heap.size := fun z hz => hlt z (by simp only [List.mem_cons]; exact .inr (.inr (.inr (.inr (List.mem_cons.1 hz)))))
  have htx : tb ∉ I.s :: I.p :: a :: w.heap.size :: own I.d m := by
    intro hm
    rcases List.mem_cons.1 hm with e | hm
    · omega
    · rcases List.mem_cons.1 hm with e | hm
      · omega
      · rcases List.mem_cons.1 hm with e | hm
        · exact l.nd.2.2.1 e.symm
        · rcases List.mem_cons.1 hm with e | hm
          · omega
          · rcases hsep tb hm with h | h <;> omega
  have hR : Refs w' (some ⟨tb, 0, none⟩) 7 tc y.tabs := refs_turn (own_refs l1.tabs) ht fun b o e hm => by
    cases e
    have := List.mem_singleton.1 hm
    omega
  refine ⟨k1.pr.away ht (fun z hz hm => ?_) (fun z hz => by rw [List.mem_singleton.1 hz]; exact hno), by simp only [h7]; exact hc, by simp only [h7]; exact hR, hR, ⟨ka, (ref_turn hka ht fun hm => by have := List.mem_singleton.1 hm; omega).mono hnl⟩, ⟨0, (now_turn0 (NowMap.made w lo) ht (fun hm => by have := List.mem_singleton.1 hm; omega) fun z hz => by rw [List.mem_singleton.1 hz]; exact hno).mono (Nat.zero_le _) (Nat.le_refl _)⟩, fun e => absurd (show a = w.heap.size from e) (by omega), k.sx, fun hm => ?_, fun hm => absurd (hownlt w.heap.size hm) (by omega), fun b off e => ?_, htx, ⟨hlo, by simp only; omega, by simp only; omega⟩⟩
  · rw [List.mem_singleton.1 hz] at hm
    rcases List.mem_cons.1 hm with e | hm
    · exact n1 e
    · exact k.sx hm
  · rcases hsep a hm with h | h <;> omega
  · cases e
    have := ht.size
    have h9 := hb.size
    exact ⟨by omega, htx⟩
end Go.Proofs.YtbjfgdahfpfgdaaGreatDoor.PgW

namespace Go.Proofs.YtbjfgdahfpfgdaaGreatDoor.PgW
open Go Go.RowKit Go.Maps Go.Proofs.YtbjfgdahfpfgdaaGreatDoor.Mem Go.Proofs.YtbjfgdahfpfgdaaGreatDoor.MapsW Go.Proofs.YtbjfgdahfpfgdaaGreatDoor.SeeW Go.Proofs.YtbjfgdahfpfgdaaGreatDoor.DevG Go.Proofs.YtbjfgdahfpfgdaaGreatDoor.PairG Go.Proofs.YtbjfgdahfpfgdaaGreatDoor.RefsW Go.Proofs.YtbjfgdahfpfgdaaGreatDoor.PgP Go.Proofs.YtbjfgdahfpfgdaaGreatDoor.RootW
set_option linter.unusedVariables false
set_option maxRecDepth 100000

/-- the store's place behind what may have moved it -/
structure Moved (w : World) (m m' : Mp) (I I' : Si) : Prop where
  d : I'.d = I.d
  p : I'.p = I.p
  H : I'.H = I.H
  c : I'.c = I.c
  s : I'.s = I.s
  z : I'.z = I.z
  own : ∀ y ∈ I'.own m', y ∈ I.own m ∨ w.heap.size ≤ y
  tb : I'.tb = I.tb ∨ w.heap.size ≤ I'.tb
  ra : I'.ra = I.ra ∨ ∀ b o, I'.ra = some ⟨b, o, none⟩ → w.heap.size ≤ b
  mm : ∃ p', m' = { m with p := p' }
theorem Moved.refl (w : World) (m : Mp) (I : Si) : Moved w m m I I := ⟨rfl, rfl, rfl, rfl, rfl, rfl, fun y h => .inl h, .inl rfl, .inl rfl, m.p, rfl⟩
def CommitTo (bs : List Addr) (w : World) (lo n : Nat) (m : Mp) (I : Si) (r : Option Nat × St × Dv) (e : Ending) (w' : World) : Prop :=
  ∃ v m' I', Says bs r.1 v ∧ e = .returned v ∧ SAt w' lo n m' r.2.2 I' r.2.1 ∧ Moved w m m' I I' ∧ Turn (I.s :: own I.d m) w w'
theorem turn_alloc {w w' : World} {s : Nat} {O : Obj} (ht : Turn [s] w w') (hsz : w'.heap.size = w.heap.size) : Turn [s] (w.alloc O) (w'.alloc O).drew := by
  have b := (Below.refl w.heap.size w).alloc (Nat.le_refl _) O
  have b' := (Below.refl w'.heap.size w').alloc (Nat.le_refl _) O
  have h : Turn [s] (w.alloc O) (w'.alloc O) := ⟨ht.os, ht.tape, ht.output, by simp [hsz], fun k hk hn => by
    rcases Nat.lt_or_ge k w.heap.size with h | h
    · exact (b'.block k (by omega)).trans ((ht.block k h hn).trans (b.block k h).symm)
    · have : k = w.heap.size := by simp at hk; omega
      subst this
      have h1 := heap_alloc_new w' O
      rw [hsz] at h1
      exact h1.trans (heap_alloc_new w O).symm⟩
  exact h.then (Turn.of_below (Below.refl _ _).drew)
set_option maxHeartbeats 3200000 in
theorem commit_w (bs : List Addr) (lo n : Nat) (m : Mp) (D : Dv) (I : Si) (S : St) (w : World) (k : SAt w lo n m D I S) (hB : Ev w lo bs seven) (hS : SOk S) (hH2 : 2 ≤ I.H)
    (hn : n + 8 * (cnt S.now + 7) + 3 * D.np + 700 < 690000) (hnp : D.np < 9000) (hc : D.calls < 800000) (hz : D.fuse ≤ 1000000) (hep : S.ep < 1000000) (hb1 : 300 ≤ D.blocks) :
    Calls Tryz.prog 16 #[ptr I.s] w (CommitTo bs w lo (n + 8 * (cnt S.now + 7) + 3 * D.np + 700) m I (commitT S D I.H)) := by
  obtain ⟨c0, c1, c2, c3, c4, c5, c6, c7, fz⟩ := k.c
  obtain ⟨ko, ho⟩ := k.now
  have e := ho.cnt hS.now.dom
  subst e
  obtain ⟨E, hE, hnp⟩ := ho.len
  have hl := hE.len Tryz.underlying91 3
  rw [hnp] at hl
  obtain ⟨a4, h4, hA4⟩ := hB.get 4 _ (by decide) rfl
  have HK := hid k
  have hH : I.H ≤ 3000 := by have := k.pr.half; have := k.pr.most; omega
  have hld := laid_w lo n m D I S w k hS.dom hS.now (by omega) hH2
  have HA4 := hid (And.intro h4 hA4)
  have HB := hid hB
  clear ho hE hnp h4 hA4 k hB
  unfold commitT
  by_cases h0 : cnt S.now = 0
  · rw [if_pos h0]
    have h0i : decide (((cnt S.now : Nat) : Int) = 0) = true := decide_eq_true (by omega)
    clear hld
    generalize cnt S.now = q at *
    go_enter Tryz.func16, Tryz.ntmps16
    go_wp2_with fail
    go_ret
    exact ⟨_, m, I, rfl, rfl, HK.out.mono (by omega), Moved.refl _ _ _, Turn.refl _ _⟩
  · rw [if_neg h0]
    have h0i : decide (((cnt S.now : Nat) : Int) = 0) = false := decide_eq_false (by omega)
    have HQ := hid (show laid S I.H = none ∨ ∃ x, laid S I.H = some x ∧ LOk S I.H x ∧ (behind S x).ep = S.ep + 1 from by
      cases hx : laid S I.H with
      | none => exact .inl rfl
      | some x => exact .inr ⟨x, rfl, laid_ok hS (by omega) hx, rfl⟩)
    unfold LaidTo at hld
    generalize hq : cnt S.now = q at *
    rcases HQ.out with hx | ⟨x, hx, hLO, _⟩
    · rw [hx] at hld ⊢
      clear hq
      go_enter Tryz.func16, Tryz.ntmps16
      go_wp2_with fail
      refine hld.mono ?_
      rintro e w1 ⟨rfl, b1⟩
      obtain ⟨a', e4, hA, _⟩ := (HB.out.below b1).get 4 _ (by decide) rfl
      have HE4 := hid e4
      have HP := hid ((HK.out.below b1).mono (n' := n + 8 * (q + 7) + 3 * D.np + 700) (by omega))
      have HT := hid (Turn.of_below (S := I.s :: own I.d m) b1)
      clear b1 e4
      go_wp2_with fail
      go_ret
      exact ⟨_, m, I, ⟨_, HE4.out, rfl⟩, rfl, HP.out, Moved.refl _ _ _, HT.out⟩
    · rw [hx] at hld ⊢
      simp only at hld ⊢
      have hlt := HK.out.own_lt
      have hlo : lo ≤ w.heap.size := by have := HK.out.slo.1; have := HK.out.slt; omega
      have htb : I.tb < w.heap.size := by
        obtain ⟨b', o', e, hc', _⟩ := HK.out.tabs.at (j := 0) (by rw [HK.out.tabs.len]; decide)
        cases e
        exact World.block_lt_of_cell? _ _ hc'
      have hra : ∀ b o, I.ra = some ⟨b, o, none⟩ → b < w.heap.size := fun b o e => (HK.out.rx b o e).1
      have HSEP := hid (And.intro hlt (And.intro htb hra))
      have hlp : x.pg.length ≤ q := by rw [← hq]; exact hLO.lp
      have hq256 : q ≤ 256 := by
        rw [← hq]
        unfold cnt
        have := List.countP_le_length (p := fun (p : Nat) => (S.now (p : Int)).isSome) (l := List.range 256)
        simpa using this
      have hlt7 := hLO.lt
      have hl7 := hLO.l7
      have HT7 := hid (show (behind S x).tabs.length = 7 from (sumsT_length _ _ _).trans hl7)
      have HLO := hid hLO
      cases hf : fits x I.H with
      | false =>
        rw [hf] at hld
        rw [if_neg (by simp)]
        clear hq hlt htb hra hLO
        go_enter Tryz.func16, Tryz.ntmps16
        go_wp2_with fail
        refine hld.mono ?_
        rintro e w1 ⟨⟨X, tb, tc, a, vn, vp, vf, rfl, hL⟩, b1⟩
        obtain ⟨a', e4, hA, _⟩ := (HB.out.below b1).get 4 _ (by decide) rfl
        have HE4 := hid e4
        have HP := hid ((HK.out.below b1).mono (n' := n + 8 * (q + 7) + 3 * D.np + 700) (by omega))
        have HT := hid (Turn.of_below (S := I.s :: own I.d m) b1)
        clear b1 e4 hL hld
        go_wp2_with fail
        go_ret
        exact ⟨_, m, I, ⟨_, HE4.out, rfl⟩, rfl, HP.out, Moved.refl _ _ _, HT.out⟩
      | true =>
        rw [hf] at hld
        rw [if_pos rfl]
        obtain ⟨CT, hCT⟩ : ∃ CT, CT = Dv.commit D I.H (S.ep + 1) (writes S x) (behind S x).tabs := ⟨_, rfl⟩
        rw [← hCT]
        have HCT := hid hCT
        clear hCT
        clear hq hlt htb hra hLO
        go_enter Tryz.func16, Tryz.ntmps16
        go_wp2_with fail
        refine hld.mono ?_
        rintro e w1 ⟨⟨X, tb, tc, a, vn, vp, vf, rfl, hL⟩, b1⟩
        have hwr := swrite_w bs lo n (n + 300) w.heap.size m D I S X tb tc a vn vp vf x w1 (HK.out.below b1) hL.lw (HB.out.below b1) HSEP.out hlo HLO.out.P HLO.out.T HLO.out.ok HLO.out.okT HLO.out.nb (by omega) hlt7 hl7 (by omega) (by omega) (by omega) (by omega) hz hep hb1
        have hin := hL.lt
        have HTA := hid (And.intro hL.b0.2 (own_tab hL.tabs).1)
        have HB1 := hid b1
        have HL1 := hid (And.intro (hL.lt a (by simp)) (hL.lt tb (by simp)))
        clear hL b1 hld hin
        go_wp2_with fail
        refine hwr.mono ?_
        rintro e w2 ⟨hres, p', hp', k2, t2⟩
        rw [← HCT.out] at hres k2
        obtain ⟨rr, D2⟩ := CT
        have HP' := hid hp'
        have HK2 := hid k2
        have HT2 := hid t2
        have hz1 := HB1.out.size
        cases rr with
        | some qe =>
          obtain ⟨ad, u, ra, rn, rc, had, rfl⟩ := hres
          have HAD := hid had
          clear hwr k2 t2 had hp'
          have HM := hid (show Moved w m { m with p := p' } I I from ⟨rfl, rfl, rfl, rfl, rfl, rfl, fun y hy => by
            simp only [Si.own, own, Mp.list, List.mem_cons, List.not_mem_nil, or_false] at hy ⊢
            rcases HP'.out with e | e
            · subst e; exact .inl hy
            · rcases hy with hy | hy | hy | hy | hy | hy | hy | hy | hy | hy
              · exact .inl (by simp [hy])
              · exact .inl (by simp [hy])
              · exact .inl (by simp [hy])
              · exact .inl (by simp [hy])
              · exact .inl (by simp [hy])
              · exact .inl (by simp [hy])
              · exact .inr (by omega)
              · exact .inl (by simp [hy])
              · exact .inl (by simp [hy])
              · exact .inl (by simp [hy]), .inl rfl, .inl rfl, p', rfl⟩)
          have HT := hid (show Turn (I.s :: own I.d m) w w2 from (Turn.of_below HB1.out).trans HT2.out fun y hy => by
            simp only [List.mem_cons] at hy ⊢
            rcases hy with rfl | rfl | hy
            · exact .inr HTA.out.1
            · exact .inr HTA.out.2
            · exact .inl (.inr hy))
          have HBB := hid (fun O : Obj => (Below.refl w2.heap.size w2).alloc (Nat.le_refl _) O)
          go_wp2_with fail
          go_ret
          exact ⟨_, _, I, ⟨ad, HAD.out, rfl⟩, rfl, (HK2.out.below (HBB.out _)).mono (by omega), HM.out, HT.out.then (Turn.of_below (HBB.out _))⟩
        | none =>
          obtain ⟨rfl, hL2⟩ := hres
          have hR3 := heap_alloc_new w2 (.cells #[.int .i64 ((S.ep + 1 : Nat) : Int), .slice (some ⟨tb, 0, none⟩) 7 tc] 89)
          have b3 := (Below.refl w2.heap.size w2).alloc (Nat.le_refl _) (.cells #[.int .i64 ((S.ep + 1 : Nat) : Int), .slice (some ⟨tb, 0, none⟩) 7 tc] 89)
          have k3 := k2.below b3
          have l3 := hL2.below b3
          obtain ⟨ep1, hep1⟩ : ∃ e : Nat, e = S.ep + 1 := ⟨_, rfl⟩
          rw [← hep1] at hR3 k3 l3 b3 ⊢
          have HEP := hid hep1
          clear hep1 hwr k2 t2 hp' hL2
          have HTA2 := hid (show Turn (a :: tb :: own I.d m) w1 (w2.alloc (.cells #[.int .i64 (ep1 : Int), .slice (some ⟨tb, 0, none⟩) 7 tc] 89)) from HT2.out.then (Turn.of_below b3))
          obtain ⟨r, hr⟩ : ∃ r, r = w2.heap.size := ⟨_, rfl⟩
          rw [← hr] at hR3
          clear b3
          go_upto_region 9 with fail
          rw [← hr]
          generalize w2.alloc (.cells #[.int .i64 (ep1 : Int), .slice (some ⟨tb, 0, none⟩) 7 tc] 89) = w3 at *
          have bM := (Below.refl w3.heap.size w3).alloc (Nat.le_refl _) (.map #[] 0)
          have k4 := k3.below bM
          have l4 := l3.below bM
          have hR4 := (bM.block r (Array.getElem?_eq_some_iff.1 hR3).1).trans hR3
          have r0 : w3.cell? ⟨r, 0, none⟩ = some (.int .i64 (ep1 : Int)) := by simp [World.cell?, hR3]
          have r1 : w3.cell? ⟨r, 1, none⟩ = some (.slice (some ⟨tb, 0, none⟩) 7 tc) := by simp [World.cell?, hR3]
          have r0d : w3.drew.cell? ⟨r, 0, none⟩ = some (.int .i64 (ep1 : Int)) := r0
          have r1d : w3.drew.cell? ⟨r, 1, none⟩ = some (.slice (some ⟨tb, 0, none⟩) 7 tc) := r1
          have s0 : (w3.alloc (.map #[] 0)).cell? ⟨r, 0, none⟩ = some (.int .i64 (ep1 : Int)) := by simp [World.cell?, hR4]
          have s1 : (w3.alloc (.map #[] 0)).cell? ⟨r, 1, none⟩ = some (.slice (some ⟨tb, 0, none⟩) 7 tc) := by simp [World.cell?, hR4]
          have x0 := l3.c.1
          have x1 := l3.c.2.1
          have x0d : w3.drew.cell? ⟨X, 0, none⟩ = some (.slice (some ⟨tb, 0, none⟩) 7 tc) := x0
          have x1d : w3.drew.cell? ⟨X, 1, none⟩ = some (.map (some a)) := x1
          have y0 := l4.c.1
          have y1 := l4.c.2.1
          obtain ⟨e0, e1, e2, e3, e4, e5, e6, e7, ez⟩ := k3.c
          obtain ⟨g0, g1, g2, g3, g4, g5, g6, g7, gz⟩ := k4.c
          have ez2 := ez 2
          have ez3 := ez 3
          have ez4 := ez 4
          have ez5 := ez 5
          have ez6 := ez 6
          have gz2 := gz 2
          have gz3 := gz 3
          have gz4 := gz 4
          have gz5 := gz 5
          have gz6 := gz 6
          have hcl := k3.cells
          have HK3 := hid k3
          have HL3 := hid l3
          have HCL := hid hcl
          have hmm := @run_makeMap Tryz.prog
          have hXs : X ≠ I.s := by have := (HSEP.out.1 I.s (by simp)); have := (HL3.out).b0.1; omega
          have hrs : r ≠ I.s := by
            have h1 := HK2.out.slt
            omega
          have hrs' : I.s ≠ r := Ne.symm hrs
          have hXs' : I.s ≠ X := Ne.symm hXs
          have hsl : I.s < w3.heap.size := k3.slt
          have hXl : X < w3.heap.size := l3.lt
          have hrl : r < w3.heap.size := (Array.getElem?_eq_some_iff.1 hR3).1
          clear k3 l3 k4 l4 hR3 hR4 bM ez gz hcl c0 c1 c2 c3 c4 c5 c6 c7 fz hl hr
          go_cut [] from 30 to 51 (fun wx => wx.heap[I.s]? = some (.cells (scells I.d I.p ep1 (some ⟨tb, 0, none⟩) 7 tc tb tc a w3.heap.size I.z) 93) ∧ Turn [I.s] (w3.alloc (.map #[] 0)) wx)
          case first =>
            go_region
            all_goals
              go_wp2_with fail
              go_meet
              refine ⟨?_, turn_alloc (((((Turn.setCell w3 I.s 2 _ (by simp)).then (Turn.setCell _ I.s 3 _ (by simp))).then (Turn.setCell _ I.s 4 _ (by simp))).then (Turn.setCell _ I.s 5 _ (by simp))).then (Turn.setCell _ I.s 6 _ (by simp))) (by simp)⟩
              refine Eq.trans (((Below.refl _ _).alloc (Nat.le_refl _) (.map #[] 0)).block I.s (by simp; exact hsl)) ?_
              simp [World.setCell, Array.getElem?_modify, HCL.out]
          case rest =>
            obtain ⟨hcs, ht⟩ := hcut
            generalize wc = w4 at *
            have hR1 := HL1.out
            have hz1 := HB1.out.size
            have hsep : ∀ z ∈ own I.d { m with p := p' }, z < w.heap.size ∨ w1.heap.size ≤ z := fun z hz => by
              have h5 : ∀ y ∈ own I.d m, y < w.heap.size := fun y hy => HSEP.out.1 y (by simp only [List.mem_cons]; exact .inr (.inr (.inr (.inr (List.mem_cons.1 hy)))))
              simp only [own, Mp.list, List.mem_cons, List.not_mem_nil, or_false] at hz h5
              rcases HP'.out with e | e
              · subst e; exact .inl (h5 z hz)
              · rcases hz with hz | hz | hz | hz | hz | hz
                · exact .inl (h5 z (by simp [hz]))
                · exact .inl (h5 z (by simp [hz]))
                · exact .inr (by omega)
                · exact .inl (h5 z (by simp [hz]))
                · exact .inl (h5 z (by simp [hz]))
                · exact .inl (h5 z (by simp [hz]))
            have k5 := SAt.assign (ep := ep1) (R := w1.heap.size) (HK3.out.mono (n' := n + 8 * (q + 7) + 3 * D.np + 700) (by omega)) HL3.out HT7.out (by omega) hlo ⟨HSEP.out.1 I.s (by simp), HSEP.out.1 I.p (by simp)⟩ hsep hR1 ht hcs
            have hep1 := HEP.out
            subst hep1
            have k6 : SAt w4 lo (n + 8 * (q + 7) + 3 * D.np + 700) { m with p := p' } D2 { I with a := a, o := w3.heap.size, ra := some ⟨tb, 0, none⟩, rc := tc, tb := tb, tc := tc } (behind S x) := k5
            have hz3 := HTA2.out.size
            have ha := HTA.out
            have hMv : Moved w m { m with p := p' } I { I with a := a, o := w3.heap.size, ra := some ⟨tb, 0, none⟩, rc := tc, tb := tb, tc := tc } := by
              refine ⟨rfl, rfl, rfl, rfl, rfl, rfl, fun y hy => ?_, .inr ha.2, .inr fun b o e => by cases e; exact ha.2, p', rfl⟩
              simp only [Si.own, own, Mp.list, List.mem_cons, List.not_mem_nil, or_false] at hy ⊢
              rcases hy with hy | hy | hy | hy | hy | hy | hy | hy | hy | hy
              · exact .inl (by simp [hy])
              · exact .inl (by simp [hy])
              · exact .inr (by omega)
              · exact .inr (by omega)
              · exact .inl (by simp [hy])
              · exact .inl (by simp [hy])
              · rcases HP'.out with e | e
                · exact .inl (by simp [hy, e])
                · exact .inr (by omega)
              · exact .inl (by simp [hy])
              · exact .inl (by simp [hy])
              · exact .inl (by simp [hy])
            have hT : Turn (I.s :: own I.d m) w w4 := by
              have t1 : Turn (I.s :: own I.d m) w w3 := (Turn.of_below HB1.out).trans HTA2.out fun y hy => by
                simp only [List.mem_cons] at hy ⊢
                rcases hy with rfl | rfl | hy
                · exact .inr ha.1
                · exact .inr ha.2
                · exact .inl (.inr hy)
              exact (t1.then (Turn.of_below ((Below.refl w3.heap.size w3).alloc (Nat.le_refl _) (.map #[] 0)))).then (ht.mono fun y hy => by rw [List.mem_singleton.1 hy]; simp)
            have H6 := hid k6
            have HMv := hid hMv
            have HT6 := hid hT
            clear k5 k6 hMv hT hsep hcs ht
            go_wp2_with fail
            go_ret
            exact ⟨_, _, _, rfl, rfl, H6.out, HMv.out, HT6.out⟩
end Go.Proofs.YtbjfgdahfpfgdaaGreatDoor.PgW

namespace Go.Proofs.YtbjfgdahfpfgdaaGreatDoor.DevG
open Go Go.RowKit Go.Maps Go.Proofs.YtbjfgdahfpfgdaaGreatDoor.Mem Go.Proofs.YtbjfgdahfpfgdaaGreatDoor.MapsW Go.Proofs.YtbjfgdahfpfgdaaGreatDoor.SeeW
set_option linter.unusedVariables false
set_option maxRecDepth 100000

theorem down_w (d lo n : Nat) (m : Mp) (D : Dv) (w : World) (h : At w lo d n m D) :
    Calls Tryz.prog 30 #[ptr d] w fun e w' => e = .returned (.bool D.down) ∧ w = w' := by
  obtain ⟨c0, c1, c2, c3, c4, c5, c6, c7, c8, f6, f2, f7, f8⟩ := h.c
  go_enter Tryz.func30, Tryz.ntmps30
  go_wp2
  go_ret
  exact ⟨rfl, rfl⟩
theorem calls_w (d lo n : Nat) (m : Mp) (D : Dv) (w : World) (h : At w lo d n m D) :
    Calls Tryz.prog 25 #[ptr d] w fun e w' => e = .returned (.int .i64 D.calls) ∧ w = w' := by
  obtain ⟨c0, c1, c2, c3, c4, c5, c6, c7, c8, f6, f2, f7, f8⟩ := h.c
  go_enter Tryz.func25, Tryz.ntmps25
  go_wp2
  go_ret
  exact ⟨rfl, rfl⟩
end Go.Proofs.YtbjfgdahfpfgdaaGreatDoor.DevG

namespace Go.Proofs.YtbjfgdahfpfgdaaGreatDoor.PgW
open Go Go.RowKit Go.Maps Go.Proofs.YtbjfgdahfpfgdaaGreatDoor.Mem Go.Proofs.YtbjfgdahfpfgdaaGreatDoor.MapsW Go.Proofs.YtbjfgdahfpfgdaaGreatDoor.SeeW Go.Proofs.YtbjfgdahfpfgdaaGreatDoor.DevG Go.Proofs.YtbjfgdahfpfgdaaGreatDoor.PairG Go.Proofs.YtbjfgdahfpfgdaaGreatDoor.RefsW Go.Proofs.YtbjfgdahfpfgdaaGreatDoor.PgP Go.Proofs.YtbjfgdahfpfgdaaGreatDoor.RootP Go.Proofs.YtbjfgdahfpfgdaaGreatDoor.RootW
set_option linter.unusedVariables false
set_option maxRecDepth 100000

theorem Stand.tabs {H : Nat} {S : St} {V : Int → Option (List Nat)} {D : Dv} (h : Stand H S V D) : Tabs D H S.tabs S.at_ (fun _ => D) (fun _ => 0) := by
  refine ⟨rfl, rfl, fun t ht hh => ⟨h.fit.tno t ht hh, rfl, rfl⟩, fun t ht hh => ?_, fun _ _ => h.idle.down, fun _ _ => rfl, fun _ _ => rfl, fun _ _ => Nat.le_add_right _ _, fun _ _ => Nat.le_add_right _ _, fun _ _ => h.idle.bytes, fun _ _ => Nat.zero_le _, rfl⟩
  obtain ⟨a, h1, h2, h3, h4⟩ := h.fit.tb t ht hh
  exact ⟨a, h1, h2, h3, readP_first h4.1 rfl, .inr h4.1⟩
theorem Stand.zero {H : Nat} {S : St} {V : Int → Option (List Nat)} {D : Dv} (h : Stand H S V D) (h0 : S.ep = 0) : { S with now := fun _ => none } = St0 := by
  have ha : S.at_ = fun _ => none := funext fun i => h.fit.off i (h.fit.zero h0 i)
  have ht : S.tabs = List.replicate 7 (0, 0) := by
    have hh : ∀ t, PgP.has S.at_ t = false := fun t => by
      rw [ha]
      unfold PgP.has
      rw [List.any_eq_false]
      intro i _
      simp
    refine List.ext_getElem (by rw [h.fit.t7]; rfl) fun t h1 h2 => ?_
    have h7 : t < 7 := by rw [← h.fit.t7]; exact h1
    have := h.fit.tno t h7 (hh t)
    rw [List.getElem_replicate, ← this]
    simp [List.getD, h1]
  have hr := h.new h0
  obtain ⟨ep, rs, tabs, at_, now⟩ := S
  simp only at ha ht hr h0
  subst ha ht hr h0
  rfl
/-- the block of an address -/
def raB : Option Addr → List Nat
  | some ⟨b, _, none⟩ => [b]
  | _ => []
/-- all blocks that are a store's alone -/
def Si.all (I : Si) (m : Mp) : List Nat := I.tb :: (raB I.ra ++ I.own m)
theorem Si.own_all {I : Si} {m : Mp} {x : Nat} (h : x ∈ I.own m) : x ∈ I.all m := List.mem_cons_of_mem _ (List.mem_append.2 (.inr h))
theorem mem_raB {a : Option Addr} {x : Nat} (h : x ∈ raB a) : ∃ o, a = some ⟨x, o, none⟩ := by
  unfold raB at h
  split at h
  · rw [List.mem_singleton.1 h]; exact ⟨_, rfl⟩
  · cases h
theorem Si.all_sub {B : Nat} {I I' : Si} {m m' : Mp} (htb : I'.tb = I.tb ∨ B ≤ I'.tb) (hra : I'.ra = I.ra ∨ ∀ b o, I'.ra = some ⟨b, o, none⟩ → B ≤ b) (hown : ∀ x ∈ I'.own m', x ∈ I.own m ∨ B ≤ x) : ∀ x ∈ I'.all m', x ∈ I.all m ∨ B ≤ x := by
  intro x hx
  rcases List.mem_cons.1 hx with e | hx
  · rcases htb with h | h
    · left; rw [e, h]; exact List.mem_cons_self
    · right; rw [e]; exact h
  · rcases List.mem_append.1 hx with hx | hx
    · rcases hra with h | h
      · left; rw [h] at hx; exact List.mem_cons_of_mem _ (List.mem_append.2 (.inl hx))
      · obtain ⟨o, e⟩ := mem_raB hx
        exact .inr (h x o e)
    · exact (hown x hx).imp Si.own_all id
theorem Moved.all {w : World} {m m' : Mp} {I I' : Si} (h : Moved w m m' I I') : ∀ x ∈ I'.all m', x ∈ I.all m ∨ w.heap.size ≤ x := Si.all_sub h.tb h.ra h.own
/-- a store at s over the device at d, of b blocks; the pages committed, what was changed, how many commits, how many calls -/
structure Up (Y : List Nat) (bs : List Addr) (w : World) (lo b n c : Nat) (s d : Nat) (V N : Int → Option (List Nat)) (ep : Nat) (m : Mp) (D : Dv) (I : Si) (S : St) : Prop where
  at_ : SAt w lo n m D I S
  st : Stand I.H S V D
  hs : I.s = s
  hd : I.d = d
  hH : I.H = GeoW.half b
  bl : D.blocks = b
  b1 : 300 ≤ b
  b2 : b ≤ 6000
  cl : D.calls = c
  ic : I.c ≤ 7
  ev : Ev w lo bs seven
  los : lo ≤ w.heap.size
  now : S.now = N
  ep : S.ep = ep
  out : ∀ y ∈ Y, y < w.heap.size ∧ y ∉ I.all m
/-- other blocks, and all rows of bytes, are as they were -/
structure Kp (Y : List Nat) (w w' : World) : Prop where
  blk : ∀ y ∈ Y, w'.heap[y]? = w.heap[y]?
  row : ∀ (a : Option Addr) (n cap : Nat) (l : List Nat), Nums .u8 w a n cap l → Nums .u8 w' a n cap l
theorem Kp.trans {Y : List Nat} {w w' w'' : World} (h : Kp Y w w') (k : Kp Y w' w'') : Kp Y w w'' := ⟨fun y hy => (k.blk y hy).trans (h.blk y hy), fun a n cap l hl => k.row a n cap l (h.row a n cap l hl)⟩
def Store (Y : List Nat) (bs : List Addr) (w : World) (lo b n c : Nat) (s d : Nat) (V N : Int → Option (List Nat)) (ep : Nat) : Prop := ∃ m D I S, Up Y bs w lo b n c s d V N ep m D I S
theorem Up.on {Y : List Nat} {bs : List Addr} {w w' : World} {lo b n n' c : Nat} {s d : Nat} {V N : Int → Option (List Nat)} {ep : Nat} {m : Mp} {D : Dv} {I : Si} {S : St} (h : Up Y bs w lo b n c s d V N ep m D I S) (hb : Below w.heap.size w w') (hn : n ≤ n') : Up Y bs w' lo b n' c s d V N ep m D I S :=
  ⟨(h.at_.below hb).mono hn, h.st, h.hs, h.hd, h.hH, h.bl, h.b1, h.b2, h.cl, h.ic, h.ev.below hb, Nat.le_trans h.los hb.size, h.now, h.ep, fun y hy => ⟨Nat.lt_of_lt_of_le (h.out y hy).1 hb.size, (h.out y hy).2⟩⟩
theorem Up.kp {Y : List Nat} {bs : List Addr} {w w' : World} {lo b n c : Nat} {s d : Nat} {V N : Int → Option (List Nat)} {ep : Nat} {m : Mp} {D : Dv} {I : Si} {S : St} (h : Up Y bs w lo b n c s d V N ep m D I S) {X : List Nat} (ht : Turn X w w') (hX : ∀ x ∈ X, x ∈ I.own m) : Kp Y w w' := ⟨fun y hy => ht.block y (h.out y hy).1 fun hm => (h.out y hy).2 (Si.own_all (hX y hm)), fun a n cap l hl => DevG.nums_turn hl ht fun x hx => h.at_.nou8 x (hX x hx)⟩
theorem Up.kpb {Y : List Nat} {bs : List Addr} {w w' : World} {lo b n c : Nat} {s d : Nat} {V N : Int → Option (List Nat)} {ep : Nat} {m : Mp} {D : Dv} {I : Si} {S : St} (h : Up Y bs w lo b n c s d V N ep m D I S) (hb : Below w.heap.size w w') : Kp Y w w' := ⟨fun y hy => hb.block y (h.out y hy).1, fun a n cap l hl => Nums.below hl hb⟩
theorem Up.outs {Y : List Nat} {bs : List Addr} {w w' : World} {lo b n c : Nat} {s d : Nat} {V N : Int → Option (List Nat)} {ep : Nat} {m m' : Mp} {D : Dv} {I I' : Si} {S : St} (h : Up Y bs w lo b n c s d V N ep m D I S) (hz : w.heap.size ≤ w'.heap.size) (hI : ∀ x ∈ I'.all m', x ∈ I.all m ∨ w.heap.size ≤ x) : ∀ y ∈ Y, y < w'.heap.size ∧ y ∉ I'.all m' := fun y hy => ⟨Nat.lt_of_lt_of_le (h.out y hy).1 hz, fun hm => by
  rcases hI y hm with h1 | h1
  · exact (h.out y hy).2 h1
  · have := (h.out y hy).1; omega⟩
theorem Store.below {Y : List Nat} {bs : List Addr} {w w' : World} {lo b n c : Nat} {s d : Nat} {V N : Int → Option (List Nat)} {ep : Nat} (h : Store Y bs w lo b n c s d V N ep) (hb : Below w.heap.size w w') : Store Y bs w' lo b n c s d V N ep := by
  obtain ⟨m, D, I, S, h⟩ := h
  exact ⟨m, D, I, S, h.on hb (Nat.le_refl _)⟩
theorem Store.mono {Y : List Nat} {bs : List Addr} {w : World} {lo b n n' c : Nat} {s d : Nat} {V N : Int → Option (List Nat)} {ep : Nat} (h : Store Y bs w lo b n c s d V N ep) (hn : n ≤ n') : Store Y bs w lo b n' c s d V N ep := by
  obtain ⟨m, D, I, S, h⟩ := h
  exact ⟨m, D, I, S, h.on (Below.refl _ _) hn⟩
theorem Store.lo {Y : List Nat} {bs : List Addr} {w : World} {lo b n c : Nat} {s d : Nat} {V N : Int → Option (List Nat)} {ep : Nat} (h : Store Y bs w lo b n c s d V N ep) : lo ≤ w.heap.size := by
  obtain ⟨m, D, I, S, h⟩ := h
  exact h.los
theorem Up.at_half {Y : List Nat} {bs : List Addr} {w : World} {lo b n c : Nat} {s d : Nat} {V N : Int → Option (List Nat)} {ep : Nat} {m : Mp} {D : Dv} {I : Si} {S : St} (h : Up Y bs w lo b n c s d V N ep m D I S) : 2 ≤ I.H ∧ I.H ≤ 512 := by
  have h1 := h.hH
  have h2 := GeoW.half_512 b
  have h3 := h.b1
  unfold GeoW.half at h1 h2
  omega
/-- a page is written -/
theorem Store.write {Y : List Nat} {bs : List Addr} {w : World} {lo b n c : Nat} {s d : Nat} {V N : Int → Option (List Nat)} {ep : Nat} (h : Store Y bs w lo b n c s d V N ep) (hn : n < 690000) {p : Int} (hp : isP p = true) {a : Option Addr} {cap : Nat} {l : List Nat} (hl : Nums .u8 w a l.length cap l) (h1 : 1 ≤ l.length) (h2 : l.length ≤ 248) (hb : Crc.Bytes l) :
    Calls Tryz.prog 15 #[ptr s, .int .i64 p, .slice a l.length cap] w fun e w' => e = .returned .nilIface ∧ Store Y bs w' lo b (n + 1) c s d V (upd N p (some l)) ep ∧ Below lo w w' ∧ Kp Y w w' := by
  obtain ⟨m, D, I, S, h⟩ := h
  obtain ⟨p0, p1, hf⟩ := isP_fits hp
  have hw := write_w bs lo n m D I S p a cap l w h.at_ h.ev hf hl (by omega)
  have hput : St.put S p l = (none, { S with now := upd S.now p (some l) }) := by
    unfold St.put
    rw [hp, if_neg (by decide), if_neg (by omega)]
  rw [hput, h.hs] at hw
  refine hw.mono ?_
  rintro e w' ⟨⟨v, hv, rfl⟩, h2', h3'⟩
  have hv' : v = .nilIface := hv
  subst hv'
  have hbl := h3'.below h.los (fun x hx => by rw [List.mem_singleton.1 hx]; exact h.at_.slo.2.2)
  refine ⟨rfl, ⟨m, D, I, _, h2', ⟨⟨h.st.fit.t7, h.st.fit.dom, h.st.fit.len, h.st.fit.off, h.st.fit.pg, h.st.fit.tno, h.st.fit.tb, h.st.fit.inj, h.st.fit.tinj, h.st.fit.pt, h.st.fit.rs, h.st.fit.zero⟩, ⟨fun i hi => ?_, fun i k hi => ?_⟩, h.st.idle, h.st.root, h.st.new, h.st.fa, h.st.sp⟩, h.hs, h.hd, h.hH, h.bl, h.b1, h.b2, h.cl, h.ic, h.ev.turn h3' (fun x hx => by rw [List.mem_singleton.1 hx]; exact h.at_.slo.2.2), Nat.le_trans h.los h3'.size, by show upd S.now p (some l) = _; rw [h.now], h.ep, h.outs h3'.size (fun x hx => .inl hx)⟩, hbl, h.kp h3' (fun x hx => by rw [List.mem_singleton.1 hx]; simp)⟩
  · change (upd S.now p (some l) i).isSome = true at hi
    by_cases e : i = p
    · omega
    · rw [upd_other _ _ e] at hi; exact h.st.now.dom i hi
  · change upd S.now p (some l) i = some k at hi
    by_cases e : i = p
    · subst e; rw [upd_same] at hi; cases hi; exact ⟨h2, hb⟩
    · rw [upd_other _ _ e] at hi; exact h.st.now.len i k hi
theorem Stand.there {H : Nat} {S : St} {V : Int → Option (List Nat)} {D : Dv} (h : Stand H S V D) (p : Int) : S.there p = (view S.now V p).isSome := by
  unfold St.there view
  cases hN : S.now p with
  | some l => cases l <;> simp
  | none =>
    simp only
    cases hV : V p with
    | none => rw [h.fit.off p hV]; rfl
    | some l =>
      obtain ⟨a, h1, h2, _⟩ := h.fit.pg p l hV
      rw [h1]
      simp only [Option.getD_some, Option.isSome_some, decide_eq_true_eq]
      omega
/-- a page is dropped -/
theorem Store.drop {Y : List Nat} {bs : List Addr} {w : World} {lo b n c : Nat} {s d : Nat} {V N : Int → Option (List Nat)} {ep : Nat} (h : Store Y bs w lo b n c s d V N ep) (hn : n < 690000) {p : Int} (hp : isP p = true) :
    Calls Tryz.prog 26 #[ptr s, .int .i64 p] w fun e w' => e = .returned .nilIface ∧ Store Y bs w' lo b (n + 1) c s d V (if (view N V p).isSome then upd N p (some []) else N) ep ∧ Below lo w w' ∧ Kp Y w w' := by
  obtain ⟨m, D, I, S, h⟩ := h
  obtain ⟨p0, p1, hf⟩ := isP_fits hp
  have hw := drop_w bs lo n m D I S p w h.at_ h.ev hf (by omega)
  have hth := h.st.there p
  rw [h.now] at hth
  have hput : St.drop S p = (none, { S with now := if (view N V p).isSome then upd N p (some []) else N }) := by
    unfold St.drop
    rw [hp, if_neg (by decide), hth]
    split
    · rw [h.now]
    · have e := h.now
      obtain ⟨a, b, c, d, f⟩ := S
      simp only at e
      subst e
      rfl
  rw [hput, h.hs] at hw
  refine hw.mono ?_
  rintro e w' ⟨⟨v, hv, rfl⟩, h2', h3'⟩
  have hv' : v = .nilIface := hv
  subst hv'
  have hbl := h3'.below h.los (fun x hx => by rw [List.mem_singleton.1 hx]; exact h.at_.slo.2.2)
  have hNo : NowOk (if (view N V p).isSome then upd N p (some []) else N) := by
    have h0 := h.st.now
    rw [h.now] at h0
    split
    · refine ⟨fun i hi => ?_, fun i k hi => ?_⟩
      · by_cases e : i = p
        · omega
        · rw [upd_other _ _ e] at hi; exact h0.dom i hi
      · by_cases e : i = p
        · subst e; rw [upd_same] at hi; cases hi; exact ⟨by simp, fun x hx => by cases hx⟩
        · rw [upd_other _ _ e] at hi; exact h0.len i k hi
    · exact h0
  exact ⟨rfl, ⟨m, D, I, _, h2', ⟨⟨h.st.fit.t7, h.st.fit.dom, h.st.fit.len, h.st.fit.off, h.st.fit.pg, h.st.fit.tno, h.st.fit.tb, h.st.fit.inj, h.st.fit.tinj, h.st.fit.pt, h.st.fit.rs, h.st.fit.zero⟩, hNo, h.st.idle, h.st.root, h.st.new, h.st.fa, h.st.sp⟩, h.hs, h.hd, h.hH, h.bl, h.b1, h.b2, h.cl, h.ic, h.ev.turn h3' (fun x hx => by rw [List.mem_singleton.1 hx]; exact h.at_.slo.2.2), Nat.le_trans h.los h3'.size, rfl, h.ep, h.outs h3'.size (fun x hx => .inl hx)⟩, hbl, h.kp h3' (fun x hx => by rw [List.mem_singleton.1 hx]; simp)⟩
/-- what leaves the store, with the pairs and the device, to be -/
theorem Up.far {Y : List Nat} {bs : List Addr} {w w' : World} {lo b n n' c c' : Nat} {s d : Nat} {V V' N N' : Int → Option (List Nat)} {ep ep' : Nat} {m m' : Mp} {D D' : Dv} {I I' : Si} {S S' : St} (h : Up Y bs w lo b n c s d V N ep m D I S) {X : List Nat}
    (k : SAt w' lo n' m' D' I' S') (hS : Stand I.H S' V' D') (hs : I'.s = I.s) (hd : I'.d = I.d) (hH : I'.H = I.H) (hb : D'.blocks = D.blocks) (hc : D'.calls = c') (hic : I'.c ≤ 7) (ht : Turn X w w') (hX : ∀ x ∈ X, lo ≤ x) (hN : S'.now = N') (he : S'.ep = ep') (hI : ∀ x ∈ I'.all m', x ∈ I.all m ∨ w.heap.size ≤ x) :
    Up Y bs w' lo b n' c' s d V' N' ep' m' D' I' S' :=
  ⟨k, by rw [hH]; exact hS, hs.trans h.hs, hd.trans h.hd, hH.trans h.hH, hb.trans h.bl, h.b1, h.b2, hc, hic, h.ev.turn ht hX, Nat.le_trans h.los ht.size, hN, he, h.outs ht.size hI⟩
/-- all is committed -/
theorem Store.commit {Y : List Nat} {bs : List Addr} {w : World} {lo b n c : Nat} {s d : Nat} {V N : Int → Option (List Nat)} {ep : Nat} (h : Store Y bs w lo b n c s d V N ep) (hn : n + 8 * (cnt N + 7) + 700 < 690000) (hc : c < 700000) (hep : ep < 1000000) (h0 : cnt N ≠ 0) {q : Nat} (h1 : cnt V ≤ q) (h2 : cnt (view N V) ≤ q) (hq : 2 * q + 18 ≤ GeoW.half b) :
    Calls Tryz.prog 16 #[ptr s] w fun e w' => e = .returned .nilIface ∧ (∃ c', c' ≤ c + 2 * (cnt N + 7) + 4 ∧ Store Y bs w' lo b (n + 8 * (cnt N + 7) + 700) c' s d (view N V) (fun _ => none) (ep + 1)) ∧ Below lo w w' ∧ Kp Y w w' := by
  obtain ⟨m, D, I, S, h⟩ := h
  obtain ⟨hH2, hH5⟩ := h.at_half
  have hnp := h.st.idle.np
  have hcl := h.cl
  have hco := commit_w bs lo n m D I S w h.at_ h.ev (Fit.sok h.st.fit h.st.now (by omega)) hH2 (by rw [h.now, hnp]; omega) (by omega) (by omega) (by rw [h.st.idle.fuse]; omega) (by rw [h.ep]; omega) (by rw [h.bl]; exact h.b1)
  obtain ⟨x, hx, hf⟩ := h.st.fit.room h.st.now h1 (by rw [h.now]; exact h2) (by rw [h.hH]; exact hq)
  obtain ⟨D', e1, e2, e3, e4⟩ := h.st.commit (by rw [h.bl]; exact h.hH) hH2 (by rw [h.ep]; omega) (by rw [h.now]; exact h0) hx hf
  rw [e1, hnp, h.now, h.hs] at hco
  rw [h.now] at e2 e4
  refine hco.mono ?_
  rintro e w' ⟨v, m', I', hv, rfl, k, hM, ht⟩
  have hv' : v = .nilIface := hv
  subst hv'
  have hX : ∀ x ∈ I.s :: own I.d m, lo ≤ x := fun x hx => by
    rcases List.mem_cons.1 hx with rfl | hx
    · exact h.at_.slo.1
    · exact h.at_.pr.dev.own_lo x hx
  have hXo : ∀ x ∈ I.s :: own I.d m, x ∈ I.own m := fun x hx => by
    rcases List.mem_cons.1 hx with rfl | hx
    · simp
    · simp only [List.mem_cons]; exact .inr (.inr (.inr (.inr (List.mem_cons.1 hx))))
  exact ⟨rfl, ⟨D'.calls, by omega, m', D', I', behind S x, h.far k e2 hM.s hM.d hM.H e3 rfl (by rw [hM.c]; exact h.ic) ht hX rfl (by show S.ep + 1 = _; rw [h.ep]) hM.all⟩, ht.below h.los hX, h.kp ht hXo⟩
/-- nothing is committed -/
theorem Store.commit0 {Y : List Nat} {bs : List Addr} {w : World} {lo b n c : Nat} {s d : Nat} {V N : Int → Option (List Nat)} {ep : Nat} (h : Store Y bs w lo b n c s d V N ep) (hn : n + 8 * (cnt N + 7) + 700 < 690000) (hc : c < 700000) (hep : ep < 1000000) (h0 : cnt N = 0) :
    Calls Tryz.prog 16 #[ptr s] w fun e w' => e = .returned .nilIface ∧ Store Y bs w' lo b (n + 8 * (cnt N + 7) + 700) c s d V N ep ∧ Below lo w w' ∧ Kp Y w w' := by
  obtain ⟨m, D, I, S, h⟩ := h
  obtain ⟨hH2, hH5⟩ := h.at_half
  have hnp := h.st.idle.np
  have hcl := h.cl
  have hco := commit_w bs lo n m D I S w h.at_ h.ev (Fit.sok h.st.fit h.st.now (by omega)) hH2 (by rw [h.now, hnp]; omega) (by omega) (by omega) (by rw [h.st.idle.fuse]; omega) (by rw [h.ep]; omega) (by rw [h.bl]; exact h.b1)
  have e1 : commitT S D I.H = (none, S, D) := by unfold commitT; rw [if_pos (by rw [h.now]; exact h0)]
  rw [e1, hnp, h.now, h.hs] at hco
  refine hco.mono ?_
  rintro e w' ⟨v, m', I', hv, rfl, k, hM, ht⟩
  have hv' : v = .nilIface := hv
  subst hv'
  have hX : ∀ x ∈ I.s :: own I.d m, lo ≤ x := fun x hx => by
    rcases List.mem_cons.1 hx with rfl | hx
    · exact h.at_.slo.1
    · exact h.at_.pr.dev.own_lo x hx
  have hXo : ∀ x ∈ I.s :: own I.d m, x ∈ I.own m := fun x hx => by
    rcases List.mem_cons.1 hx with rfl | hx
    · simp
    · simp only [List.mem_cons]; exact .inr (.inr (.inr (.inr (List.mem_cons.1 hx))))
  exact ⟨rfl, ⟨m', D, I', S, h.far k h.st hM.s hM.d hM.H rfl hcl (by rw [hM.c]; exact h.ic) ht hX h.now h.ep hM.all⟩, ht.below h.los hX, h.kp ht hXo⟩
/-- opened anew -/
theorem Store.open_ {Y : List Nat} {bs : List Addr} {w : World} {lo b n c : Nat} {s d : Nat} {V N : Int → Option (List Nat)} {ep : Nat} (h : Store Y bs w lo b n c s d V N ep) (hn : n < 680000) (hc : c < 700000) (hep : ep < 1000000) :
    Calls Tryz.prog 18 #[ptr d] w fun e w' => (∃ s', e = .returned (.tuple #[ptr s', .nilIface]) ∧ Store Y bs w' lo b (n + 400) c s' d V (fun _ => none) ep) ∧ Below lo w w' ∧ Kp Y w w' := by
  obtain ⟨m, D, I, S, h⟩ := h
  obtain ⟨hH2, hH5⟩ := h.at_half
  have hX := h.at_.pr.dev.own_lo
  have hown : ∀ {x : Nat}, x ∈ own d m → x ∈ I.own m := fun {x} hx => by
    rw [← h.hd] at hx
    simp only [List.mem_cons]
    exact .inr (.inr (.inr (.inr (List.mem_cons.1 hx))))
  have hnp := h.st.idle.np
  have hbl := h.bl
  have hb1 := h.b1
  have hb2 := h.b2
  have hcl := h.cl
  have hSt := h.st.opened
  rcases Nat.eq_zero_or_pos S.ep with h0 | h0
  · have hbe : bestOf D (GeoW.half D.blocks) = ⟨0, []⟩ := by
      have hr := h.st.root
      rw [h0] at hr
      rw [h.bl, ← h.hH]
      exact hr.none
    have hz := h.st.zero h0
    rw [hz] at hSt
    have ho := open_none bs lo I.d n m D w h.at_.pr.dev (h.ev.sub (by decide)) (by omega) (by omega) h.los h.st.idle.down h.st.idle.bytes hbe
    rw [h.hd] at ho
    refine ho.mono ?_
    rintro e w' ⟨I', rfl, k, hd, hH, _, hic, hio, ⟨htb, hra⟩, hb⟩
    refine ⟨⟨I'.s, rfl, m, D, I', St0, ⟨k.mono (by omega), ?_, rfl, hd, by rw [hH, h.bl], h.bl, h.b1, h.b2, h.cl, by omega, h.ev.below hb, Nat.le_trans h.los hb.size, rfl, ?_, h.outs hb.size (Si.all_sub (.inr htb) (.inr fun b o e => by rw [hra] at e; cases e) fun x hx => (hio x hx).imp hown id)⟩⟩, hb.mono h.los, h.kpb hb⟩
    · rw [hH, h.bl, ← h.hH]; exact hSt
    · rw [← h.ep, h0]
  · have hr := h.st.root
    have hrt := h.st.fit.rs h0
    have hfine := Fit.fine h.st.fit (by omega) h0 (by have := h.ep; omega)
    have hok := Fit.ok h.st.fit (by omega)
    have hbe := hr.best h0
    rw [hrt] at hbe
    have ho := open_some bs lo I.d n m D w h.at_.pr.dev h.ev (by omega) (by omega) h.los (H := I.H) (by rw [h.bl]; exact h.hH) h.st.tabs hbe h.st.fit.t7 hfine.g hfine.s (fun p => ?_) (fun i r hi => ?_) hok.2.2 (by omega) (by omega) (by omega) (by rw [h.st.idle.fuse]; omega)
    · have hwt : wholeT D (stOf S.ep S.tabs S.at_) = (none, D) := by
        unfold wholeT
        rw [if_pos]
        have := hr.copies h0
        rw [h.hH, ← h.bl] at this
        exact this
      rw [hwt, hnp, h.hd] at ho
      refine ho.mono ?_
      rintro e w' ⟨p', hp', ht, hres⟩
      obtain ⟨I', rfl, hd, hH, _, _, hic, k, hio, htb, hra⟩ := hres
      have hX' : ∀ x ∈ own d m, lo ≤ x := by rw [← h.hd]; exact hX
      refine ⟨⟨I'.s, rfl, _, D, I', _, ⟨k.mono (by omega), ?_, rfl, hd, by rw [hH, h.hH], h.bl, h.b1, h.b2, h.cl, hic, h.ev.turn ht hX', Nat.le_trans h.los ht.size, rfl, h.ep, h.outs ht.size (Si.all_sub (.inr htb) (.inr hra) fun x hx => (hio x hx).imp hown id)⟩⟩, ht.below h.los hX', h.kp ht (fun x hx => hown hx)⟩
      rw [hH]
      have e : stOf S.ep S.tabs S.at_ = { S with now := fun _ => none } := by unfold stOf; rw [← hrt]
      rw [e]
      exact hSt
    · unfold tref
      cases hA : S.at_ (p : Int) with
      | none => exact ⟨by decide, by decide, by decide⟩
      | some r => exact hok.1 _ r hA
    · obtain ⟨a, l, _, rfl, h2, _⟩ := h.st.fit.old_pg hi
      simp only
      omega
/-- a page is read -/
theorem Store.read {Y : List Nat} {bs : List Addr} {w : World} {lo b n c : Nat} {s d : Nat} {V N : Int → Option (List Nat)} {ep : Nat} (h : Store Y bs w lo b n c s d V N ep) (hn : n < 680000) (hc : c < 700000) {p : Int} (hp : isP p = true) :
    Calls Tryz.prog 19 #[ptr s, .int .i64 p] w fun e w' => (match view N V p with
      | none => ∃ a, bs[8]? = some a ∧ e = .returned (.tuple #[.slice none 0 0, ev a])
      | some l => ∃ a cap, e = .returned (.tuple #[.slice a l.length cap, .nilIface]) ∧ Nums .u8 w' a l.length cap l) ∧ Store Y bs w' lo b (n + 1) c s d V N ep ∧ Below lo w w' ∧ (view N V p = none → Below w.heap.size w w') ∧ Kp Y w w' := by
  obtain ⟨m, D, I, S, h⟩ := h
  obtain ⟨p0, p1, hf⟩ := isP_fits hp
  have hth := h.st.there p
  have hcl := h.cl
  cases hv : view N V p with
  | none =>
    rw [h.now, hv] at hth
    have hr := read_bad bs lo n m D I S p w h.at_ h.ev hf 8 (.inr ⟨hp, hth, rfl⟩)
    rw [h.hs] at hr
    refine hr.mono ?_
    rintro e w' ⟨h1, h2⟩
    exact ⟨h1, ⟨m, D, I, S, h.on h2 (by omega)⟩, h2.mono h.los, fun _ => h2, h.kpb h2⟩
  | some l =>
    cases hN : N p with
    | some k =>
      have hkl : k = l ∧ k ≠ [] := by
        unfold view at hv
        rw [hN] at hv
        cases k with
        | nil => cases hv
        | cons y k => exact ⟨Option.some.inj hv, by simp⟩
      obtain ⟨rfl, hk0⟩ := hkl
      have hN' : S.now p = some k := by rw [h.now]; exact hN
      have hr := read_now lo n m D I S p k w h.at_ hp hN' hk0 (h.st.now.len p k hN').1
      rw [h.hs] at hr
      refine hr.mono ?_
      rintro e w' ⟨⟨a, cap, h1, h2⟩, h3⟩
      exact ⟨⟨a, cap, h1, h2⟩, ⟨m, D, I, S, h.on h3 (by omega)⟩, h3.mono h.los, fun e => (by cases e), h.kpb h3⟩
    | none =>
      have hV : V p = some l := by
        unfold view at hv
        rw [hN] at hv
        exact hv
      obtain ⟨a, e1, e2, e3, e4⟩ := h.st.fit.pg p l hV
      have hr := read_at bs lo n m D D I S p l a _ I.c w h.at_ h.ev hp (by rw [h.now]; exact hN) e1 e3 (by omega) (h.st.fit.len p l hV).2.1 h.st.idle.down h.st.idle.fuse h.st.idle.bytes (by omega) (by omega) (by have := h.ic; omega) (readP_first e4.1 rfl) rfl
      rw [h.hs] at hr
      refine hr.mono ?_
      rintro e w' ⟨⟨x, cap, h1, h2, _⟩, k, ht⟩
      have hX : ∀ x ∈ I.p :: own I.d m, lo ≤ x := fun x hx => by
        rcases List.mem_cons.1 hx with rfl | hx
        · exact h.at_.pr.lop
        · exact h.at_.pr.dev.own_lo x hx
      exact ⟨⟨x, cap, h1, h2⟩, ⟨m, D, _, S, h.far k h.st h.hs.symm rfl rfl rfl h.cl h.ic ht hX h.now h.ep (Si.all_sub (.inl rfl) (.inl rfl) fun x hx => .inl (by have e := h.hs; subst e; exact hx))⟩, ht.below h.los hX, fun e => (by cases e), h.kp ht (fun x hx => by
        rcases List.mem_cons.1 hx with rfl | hx
        · simp
        · simp only [List.mem_cons]; exact .inr (.inr (.inr (.inr (List.mem_cons.1 hx)))))⟩
/-- which pages there are -/
def there (N V : Int → Option (List Nat)) : List Nat := (List.range 256).filter fun (p : Nat) => (view N V (p : Int)).isSome
theorem Store.pages {Y : List Nat} {bs : List Addr} {w : World} {lo b n c : Nat} {s d : Nat} {V N : Int → Option (List Nat)} {ep : Nat} (h : Store Y bs w lo b n c s d V N ep) :
    Calls Tryz.prog 45 #[ptr s] w fun e w' => (∃ a cap, e = .returned (.slice a (there N V).length cap) ∧ Nums .i64 w' a (there N V).length cap (there N V)) ∧ Below w.heap.size w w' := by
  obtain ⟨m, D, I, S, h⟩ := h
  have hp := pages_w lo n m D I S w h.at_
  have e : psOf S 256 = there N V := by
    unfold psOf there
    refine List.filter_congr fun p _ => ?_
    rw [h.st.there, h.now]
  rw [e, h.hs] at hp
  exact hp
theorem Store.calls {Y : List Nat} {bs : List Addr} {w : World} {lo b n c : Nat} {s d : Nat} {V N : Int → Option (List Nat)} {ep : Nat} (h : Store Y bs w lo b n c s d V N ep) :
    Calls Tryz.prog 25 #[ptr d] w fun e w' => e = .returned (.int .i64 (c : Int)) ∧ w' = w := by
  obtain ⟨m, D, I, S, h⟩ := h
  have hp := calls_w I.d lo n m D w h.at_.pr.dev
  rw [h.cl, h.hd] at hp
  refine hp.mono ?_
  rintro e w' ⟨h1, h2⟩
  exact ⟨h1, h2.symm⟩
theorem Up.all_lt {Y : List Nat} {bs : List Addr} {w : World} {lo b n c : Nat} {s d : Nat} {V N : Int → Option (List Nat)} {ep : Nat} {m : Mp} {D : Dv} {I : Si} {S : St} (h : Up Y bs w lo b n c s d V N ep m D I S) : ∀ x ∈ I.all m, x < w.heap.size := by
  intro x hx
  rcases List.mem_cons.1 hx with e | hx
  · obtain ⟨b', o', e', hc, _⟩ := h.at_.tabs.at (j := 0) (by rw [h.at_.tabs.len]; decide)
    cases e'
    rw [e]
    exact World.block_lt_of_cell? _ _ hc
  · rcases List.mem_append.1 hx with hx | hx
    · obtain ⟨o, e⟩ := mem_raB hx
      exact (h.at_.rx x o e).1
    · exact h.at_.own_lt x hx
/-- another block beside the store -/
theorem Store.alloc {Y : List Nat} {bs : List Addr} {w : World} {lo b n c : Nat} {s d : Nat} {V N : Int → Option (List Nat)} {ep : Nat} (h : Store Y bs w lo b n c s d V N ep) (o : Obj) : Store (w.heap.size :: Y) bs (w.alloc o) lo b n c s d V N ep := by
  obtain ⟨m, D, I, S, h⟩ := h
  have h' := h.on ((Below.refl w.heap.size w).alloc (Nat.le_refl _) o) (Nat.le_refl n)
  refine ⟨m, D, I, S, ⟨h'.at_, h'.st, h'.hs, h'.hd, h'.hH, h'.bl, h'.b1, h'.b2, h'.cl, h'.ic, h'.ev, h'.los, h'.now, h'.ep, fun y hy => ?_⟩⟩
  rcases List.mem_cons.1 hy with rfl | hy
  · exact ⟨by simp, fun hm => by
      have := h.all_lt _ hm
      omega⟩
  · exact h'.out y hy
/-- what is written into another block leaves the store -/
theorem Store.set {Y : List Nat} {bs : List Addr} {w w' : World} {lo b n c : Nat} {s d : Nat} {V N : Int → Option (List Nat)} {ep : Nat} (h : Store Y bs w lo b n c s d V N ep) {y : Nat} (hy : y ∈ Y) (ht : Turn [y] w w') (hb : NoCells w y ∨ ∃ v, w.cell? ⟨y, 0, none⟩ = some v ∧ ∀ z, v ≠ .int .u8 z) (hl : lo ≤ y) : Store Y bs w' lo b n c s d V N ep := by
  obtain ⟨m, D, I, S, h⟩ := h
  have ho := (h.out y hy).2
  have k := h.at_.away ht (fun x hx => by rw [List.mem_singleton.1 hx]; exact ⟨fun hm => ho (Si.own_all hm), fun e => ho (by rw [e]; exact List.mem_cons_self), fun b o e1 e2 => ho (by rw [e2]; exact List.mem_cons_of_mem _ (List.mem_append.2 (.inl (by unfold raB; rw [e1]; simp))))⟩) (fun x hx => by rw [List.mem_singleton.1 hx]; exact hb)
  exact ⟨m, D, I, S, ⟨k, h.st, h.hs, h.hd, h.hH, h.bl, h.b1, h.b2, h.cl, h.ic, h.ev.turn ht (fun x hx => by rw [List.mem_singleton.1 hx]; exact hl), Nat.le_trans h.los ht.size, h.now, h.ep, h.outs ht.size (fun x hx => .inl hx)⟩⟩
end Go.Proofs.YtbjfgdahfpfgdaaGreatDoor.PgW
