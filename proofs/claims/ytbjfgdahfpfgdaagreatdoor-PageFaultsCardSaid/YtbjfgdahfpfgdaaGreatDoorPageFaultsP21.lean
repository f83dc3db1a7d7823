/- A store over a device of which copies are wrong: healed; A store over a device of which copies were wrong: flushed behind healing; faults of whole pairs; A store over a device of which copies are wrong, told of explicitly: a page read; other blocks; A store on a new device; the chapter's examples; The law's model of a store, in memory; The law's model and a store: what they have in common; The walk of breviaryref.SameInts. -/
import Derived.Test.YtbjfgdahfpfgdaaGreatDoorPageFaultsP12
import Derived.Test.YtbjfgdahfpfgdaaGreatDoorPageFaultsP20
import Derived.Test.YtbjfgdahfpfgdaaGreatDoorPageFaultsP17
import Derived.Lib.SmallJoins
import Derived.Test.YtbjfgdahfpfgdaaGreatDoorPageFaultsP1
namespace Go.Proofs.YtbjfgdahfpfgdaaGreatDoor.PgW
open Go Go.RowKit Go.Maps Go.Proofs.YtbjfgdahfpfgdaaGreatDoor.Mem Go.Proofs.YtbjfgdahfpfgdaaGreatDoor.MapsW Go.Proofs.YtbjfgdahfpfgdaaGreatDoor.SeeW Go.Proofs.YtbjfgdahfpfgdaaGreatDoor.DevG Go.Proofs.YtbjfgdahfpfgdaaGreatDoor.PairG Go.Proofs.YtbjfgdahfpfgdaaGreatDoor.RefsW Go.Proofs.YtbjfgdahfpfgdaaGreatDoor.PgP Go.Proofs.YtbjfgdahfpfgdaaGreatDoor.RootP Go.Proofs.YtbjfgdahfpfgdaaGreatDoor.RootW
set_option linter.unusedVariables false
set_option maxRecDepth 100000

/-- Heal of a root's block -/
theorem heal0_w (lo n : Nat) (m : Mp) (D : Dv) (I : Si) (S : St) (i : Nat) (w : World) (k : SAt w lo n m D I S) (h2 : 2 ≤ I.H) (hH : I.H ≤ 512) (hi : i < 2) (Q : Int → World → Prop) (hr : ∀ w', Below w.heap.size w w' → Calls Tryz.prog 75 #[ptr I.s, .int .i64 i] w' fun e w'' => ∃ j : Int, e = .returned (.tuple #[.int .i64 j, .nilIface]) ∧ Q j w'') :
    Calls Tryz.prog 40 #[ptr I.s, .int .i64 i] w fun e w' => ∃ j : Int, e = .returned (.tuple #[.int .i64 j, .nilIface]) ∧ Q j w' := by
  have c1 := k.c.2.1
  have hgeo := pgeo_w lo I.d n m D I.p I.H I.c w k.pr
  have hfl : ∀ (b h : Int) w, (Instr.field 25 (GeoW.G b h) 1).run Tryz.prog w = .ok (.int .i64 h) w := fun b h w => by kernel_rfl
  have d1 : decide ((i : Int) < 0) = false := decide_eq_false (by omega)
  have d2 : decide ((I.H : Int) ≤ (i : Int)) = false := decide_eq_false (by omega)
  have d3 : decide ((i : Int) < 2) = true := decide_eq_true (by omega)
  have HR := hid hr
  clear k hr
  go_enter Tryz.func40, Tryz.ntmps40
  go_wp2_with fail
  refine hgeo.mono ?_
  rintro e w1 ⟨rfl, hb1⟩
  have hrr := HR.out w1 hb1
  clear hgeo hb1
  go_wp2_with fail
  refine hrr.mono ?_
  rintro e w2 ⟨j, rfl, hQ⟩
  have HQ := hid hQ
  clear hrr hQ
  go_wp2_with fail
  go_ret2
  exact ⟨j, rfl, HQ.out⟩
/-- a store of which the first K pairs were healed -/
def LimH (Y : List Nat) (bs : List Addr) (w : World) (lo b n c s d : Nat) (V : Int → Option (List Nat)) (C : Nat → List Nat) (ep np K : Nat) : Prop := ∃ m D I S, LimM Y bs w lo b n c s d V C ep np m D I S ∧ ∀ a, a < K → a ∈ used S.tabs S.at_ I.H → Healed I.H S D a
theorem Lim.healed0 {Y : List Nat} {bs : List Addr} {w : World} {lo b n c s d : Nat} {V : Int → Option (List Nat)} {C : Nat → List Nat} {ep np : Nat} (h : Lim Y bs w lo b n c s d V C ep np) : LimH Y bs w lo b n c s d V C ep np 0 := by
  obtain ⟨m, D, I, S, h⟩ := h
  exact ⟨m, D, I, S, h, fun a ha => absurd ha (Nat.not_lt_zero a)⟩
theorem LimM.ok {Y : List Nat} {bs : List Addr} {w : World} {lo b n c s d : Nat} {V : Int → Option (List Nat)} {C : Nat → List Nat} {ep np : Nat} {m : Mp} {D : Dv} {I : Si} {S : St} (h : LimM Y bs w lo b n c s d V C ep np m D I S) : 2 ≤ I.H ∧ I.H ≤ 512 := by
  have h1 := h.hH
  have h2 := half_two h.b1
  have h3 := GeoW.half_512 b
  omega
theorem LimM.kp {Y : List Nat} {bs : List Addr} {w w' : World} {lo b n c s d : Nat} {V : Int → Option (List Nat)} {C : Nat → List Nat} {ep np : Nat} {m : Mp} {D : Dv} {I : Si} {S : St} (h : LimM Y bs w lo b n c s d V C ep np m D I S) {X : List Nat} (ht : Turn X w w') (hX : ∀ x ∈ X, x ∈ I.own m) : Kp Y w w' :=
  ⟨fun y hy => ht.block y (h.out y hy).1 fun hm => (h.out y hy).2 (Si.own_all (hX y hm)), fun a n cap l hl => DevG.nums_turn hl ht fun x hx => h.at_.nou8 x (hX x hx)⟩
theorem LimM.refs {Y : List Nat} {bs : List Addr} {w : World} {lo b n c s d : Nat} {V : Int → Option (List Nat)} {C : Nat → List Nat} {ep np : Nat} {m : Mp} {D : Dv} {I : Si} {S : St} (h : LimM Y bs w lo b n c s d V C ep np m D I S) {r : Ref} (hr : RefOf S r) {i : Nat} (h2 : 2 ≤ i) (he : r.1 = (i : Int)) : r.2 = Crc.sum (C i) ∧ i ∈ used S.tabs S.at_ I.H := by
  rcases hr with hr | ⟨p, hp⟩
  · obtain ⟨t, ht, rfl⟩ := List.mem_iff_getElem.1 hr
    have ht7 : t < 7 := by rw [← h.li.fit.t7]; exact ht
    have e : S.tabs.getD t (0, 0) = S.tabs[t] := by rw [List.getD_eq_getElem?_getD, List.getElem?_eq_getElem ht]; rfl
    cases hh : PgP.has S.at_ t with
    | false =>
      have := h.li.fit.tno t ht7 hh
      rw [e] at this
      rw [this] at he
      simp at he
      omega
    | true =>
      obtain ⟨a, e1, a2, aH, au, hC⟩ := h.li.tab ht7 hh
      rw [e] at e1
      rw [e1] at he ⊢
      have : (a : Int) = (i : Int) := he
      obtain rfl : a = i := by omega
      exact ⟨by rw [hC], au⟩
  · obtain ⟨a, l, h1, rfl, h3, h4, h5⟩ := h.li.fit.old_pg hp
    have : (a : Int) = (i : Int) := he
    obtain rfl : a = i := by omega
    exact ⟨by rw [h5.2], h5.1⟩
theorem LimM.of_used {Y : List Nat} {bs : List Addr} {w : World} {lo b n c s d : Nat} {V : Int → Option (List Nat)} {C : Nat → List Nat} {ep np : Nat} {m : Mp} {D : Dv} {I : Si} {S : St} (h : LimM Y bs w lo b n c s d V C ep np m D I S) {i : Nat} (h2 : 2 ≤ i) (hu : i ∈ used S.tabs S.at_ I.H) : ∃ r, RefOf S r ∧ r.1 = (i : Int) := by
  obtain ⟨_, h1 | ⟨r, hr, e⟩ | ⟨p, hp, r, hr, e⟩⟩ := mem_used.1 hu
  · omega
  · exact ⟨r, .inl hr, e⟩
  · exact ⟨r, .inr ⟨_, hr⟩, e⟩
theorem Si.all_same {I I' : Si} {m : Mp} {B : Nat} (h1 : I'.tb = I.tb) (h2 : I'.ra = I.ra) (h3 : I'.own m = I.own m) : ∀ x ∈ I'.all m, x ∈ I.all m ∨ B ≤ x := fun x hx => .inl (by
  unfold Si.all at *
  rw [h1, h2, h3] at hx
  exact hx)
set_option maxHeartbeats 1600000 in
/-- the next pair is healed -/
theorem LimH.heal {Y : List Nat} {bs : List Addr} {w : World} {lo b n c s d : Nat} {V : Int → Option (List Nat)} {C : Nat → List Nat} {ep np K : Nat} (h : LimH Y bs w lo b n c s d V C ep np K) (hn : n < 680000) (hc : c < 700000) (hnp : np < 900000) (hep : ep < 1000000) (h0 : 0 < ep) (hK : K < GeoW.half b) :
    Calls Tryz.prog 40 #[ptr s, .int .i64 K] w fun e w' => ∃ j : Int, e = .returned (.tuple #[.int .i64 j, .nilIface]) ∧ LimH Y bs w' lo b (n + 2) (c + 2) s d V C ep (np + 2) (K + 1) ∧ Below lo w w' ∧ Kp Y w w' := by
  obtain ⟨m, D, I, S, h, hh⟩ := h
  obtain ⟨H2, H5⟩ := h.ok
  have h0' : 0 < S.ep := by rw [h.ep]; exact h0
  have hep' : S.ep < 1000000 := by rw [h.ep]; exact hep
  have hrt := h.li.fit.rs h0'
  have hfine : Fine ⟨(S.ep : Int), S.tabs⟩ := Fit.fine h.li.fit (by omega) h0' (by omega)
  rw [← hrt] at hfine
  have hKH : K < I.H := by rw [h.hH]; exact hK
  have hcl := h.cl
  have hnp2 := h.hnp
  have hic := h.ic
  have hs := h.hs
  by_cases hk2 : K < 2
  · have hM := h.li.healR H2 hfine h0' hk2
    have hX : ∀ x ∈ I.s :: own I.d m, x ∈ I.own m := fun x hx => by
      rcases List.mem_cons.1 hx with rfl | hx
      · simp
      · exact UpF.own_sub hx
    have hr := fun (w' : World) (hb : Below w.heap.size w w') => healRoot_w bs lo n m D I S K w' (h.at_.below hb) (h.ev.below hb) hk2 H2 h.li.down h.li.fuse h.li.bytes hfine.g hfine.s h0' hep' (by omega) (by omega) (fun e => bads_newer h.li h0' e)
    have h0w := heal0_w lo n m D I S K w h.at_ H2 H5 hk2 (fun j w'' => LimH Y bs w'' lo b (n + 2) (c + 2) s d V C ep (np + 2) (K + 1) ∧ Below lo w w'' ∧ Kp Y w w'') (fun w' hb => (hr w' hb).mono fun e w'' ⟨z', he, k, ht⟩ => ⟨_, he, ?_⟩)
    · rw [hs] at h0w; exact h0w
    · have ht' : Turn (I.s :: own I.d m) w w'' := (Turn.of_below hb).then ht
      have hlo : ∀ x ∈ I.s :: own I.d m, lo ≤ x := fun x hx => h.at_.own_lo x (hX x hx)
      have g1 := hM.blocks
      have g2 := hM.calls
      have g3 := hM.np
      refine ⟨⟨m, _, _, S, h.far k hM.limp rfl rfl rfl g1 (by omega) (by omega) (by show I.c ≤ _; omega) ht' hlo (Si.all_same rfl rfl rfl), fun a ha hu => ?_⟩, ht'.below h.los hlo, h.kp ht' hX⟩
      by_cases e : a = K
      · subst e; exact hM.healed
      · exact hM.kept a (hh a (by omega) hu)
  · have hX : ∀ x ∈ I.p :: own I.d m, x ∈ I.own m := fun x hx => by
      rcases List.mem_cons.1 hx with rfl | hx
      · simp
      · exact UpF.own_sub hx
    have hlo : ∀ x ∈ I.p :: own I.d m, lo ≤ x := fun x hx => h.at_.own_lo x (hX x hx)
    by_cases hu : K ∈ used S.tabs S.at_ I.H
    · obtain ⟨j, D', c', hm, hj, hc', hM⟩ := h.li.mend (by omega) hKH hu I.c
      have hw := heal_w bs lo n m D D' I S K (Crc.sum (C K)) j c' w h.at_ h.ev (by omega) hKH H5 (Fit.ok h.li.fit (by omega)).2.2 h.li.down h.li.fuse h.li.bytes (by omega) (by omega) (by omega) (fun r hr he => (h.refs hr (by omega) he).1) (fun _ => hm)
      rw [hs] at hw
      refine hw.mono ?_
      rintro e w' ⟨⟨_, rfl, k⟩ | ⟨hno, _⟩, ht⟩
      · have g1 := hM.blocks
        have g2 := hM.calls
        have g3 := hM.np
        refine ⟨_, rfl, ⟨m, D', _, S, h.far (k.mono (by omega)) hM.limp rfl rfl rfl g1 (by omega) (by omega) (by show c' ≤ _; omega) ht hlo (Si.all_same rfl rfl rfl), fun a ha hau => ?_⟩, ht.below h.los hlo, h.kp ht hX⟩
        by_cases e : a = K
        · subst e; exact hM.healed
        · exact hM.kept a (hh a (by omega) hau)
      · obtain ⟨r, hr, he⟩ := h.of_used (by omega) hu
        exact absurd he (hno r hr)
    · have hw := heal_w bs lo n m D D I S K (Crc.sum (C K)) 0 0 w h.at_ h.ev (by omega) hKH H5 (Fit.ok h.li.fit (by omega)).2.2 h.li.down h.li.fuse h.li.bytes (by omega) (by omega) (by omega) (fun r hr he => (h.refs hr (by omega) he).1) (fun ⟨r, hr, he⟩ => absurd (h.refs hr (by omega) he).2 hu)
      rw [hs] at hw
      refine hw.mono ?_
      rintro e w' ⟨⟨⟨r, hr, he⟩, _⟩ | ⟨hno, rfl, k⟩, ht⟩
      · exact absurd (h.refs hr (by omega) he).2 hu
      · refine ⟨_, rfl, ⟨m, D, I, S, h.far (k.mono (by omega)) h.li rfl rfl rfl rfl (by omega) (by omega) (by omega) ht hlo (fun x hx => .inl hx), fun a ha hau => ?_⟩, ht.below h.los hlo, h.kp ht hX⟩
        exact hh a (by
          rcases Nat.lt_or_ge a K with h1 | h1
          · exact h1
          · exact absurd (show K ∈ used S.tabs S.at_ I.H by rw [show K = a by omega]; exact hau) hu) hau
end Go.Proofs.YtbjfgdahfpfgdaaGreatDoor.PgW

namespace Go.Proofs.YtbjfgdahfpfgdaaGreatDoor.PgW
open Go Go.RowKit Go.Maps Go.Proofs.YtbjfgdahfpfgdaaGreatDoor.Mem Go.Proofs.YtbjfgdahfpfgdaaGreatDoor.MapsW Go.Proofs.YtbjfgdahfpfgdaaGreatDoor.SeeW Go.Proofs.YtbjfgdahfpfgdaaGreatDoor.DevG Go.Proofs.YtbjfgdahfpfgdaaGreatDoor.PairG Go.Proofs.YtbjfgdahfpfgdaaGreatDoor.RefsW Go.Proofs.YtbjfgdahfpfgdaaGreatDoor.PgP Go.Proofs.YtbjfgdahfpfgdaaGreatDoor.RootP Go.Proofs.YtbjfgdahfpfgdaaGreatDoor.RootW Go.Proofs.YtbjfgdahfpfgdaaGreatDoor.Ints
set_option linter.unusedVariables false
set_option maxRecDepth 100000

/-- all copies are right, laid, not faulted -/
structure LimQ (Y : List Nat) (bs : List Addr) (w : World) (lo b n c s d : Nat) (V : Int → Option (List Nat)) (C : Nat → List Nat) (ep np : Nat) (m : Mp) (D : Dv) (I : Si) (S : St) : Prop where
  li : LimM Y bs w lo b n c s d V C ep np m D I S
  fa : ∀ a, a ∈ used S.tabs S.at_ I.H → D.fa (a : Int) = false ∧ D.fa ((a + I.H : Nat) : Int) = false
  wh : ∀ a, a ∈ used S.tabs S.at_ I.H → Whole I.H S C D a
theorem used_lt {S : St} {H a : Nat} (h : a ∈ used S.tabs S.at_ H) : a < H := (mem_used.1 h).1
theorem cp_sound {D : Dv} {q : Int} {P : List Nat} (h : Cp D q P) (h1 : D.pe q = none) (h2 : D.fa q = false) : Sound D q P := by
  rcases h with h | h | ⟨_, h4, _⟩
  · rw [h1] at h; cases h
  · exact h
  · rw [h2] at h4; cases h4
theorem LimH.flush {Y : List Nat} {bs : List Addr} {w : World} {lo b n c s d : Nat} {V : Int → Option (List Nat)} {C : Nat → List Nat} {ep np K : Nat} (h : LimH Y bs w lo b n c s d V C ep np K) (hn : n < 680000) (hc : c < 700000) (hnp : np < 10000) (hK : GeoW.half b ≤ K) :
    Calls Tryz.prog 41 #[ptr d] w fun e w' => e = .returned .nilIface ∧ (∃ m D I S, LimQ Y bs w' lo b (n + 3 * np) (c + 1) s d V C ep np m D I S) ∧ Below lo w w' ∧ Kp Y w w' := by
  obtain ⟨m, D, I, S, h, hh⟩ := h
  obtain ⟨H2, H5⟩ := h.ok
  have hcl := h.cl
  have hnp2 := h.hnp
  have hic := h.ic
  have hd := h.hd
  have hfu := h.li.fuse
  have hdn : D.tick.down = false := by rw [Dv.tick_zero hfu]; exact h.li.down
  have hf := flush_ok I.d lo n m D w h.at_.pr.dev (by omega) (by omega) (by omega) (by rw [hfu]; decide) hdn
  rw [Dv.tick_zero hfu, hd] at hf
  refine hf.mono ?_
  rintro e w' ⟨rfl, p', hp', ha, ht⟩
  rw [← hd] at ha ht
  have hX : ∀ x ∈ own I.d m, x ∈ I.own m := fun x hx => UpF.own_sub hx
  have hlo : ∀ x ∈ own I.d m, lo ≤ x := fun x hx => h.at_.own_lo x (hX x hx)
  have hpr : PR w' lo I.d (n + 3 * D.np) { m with p := p' } D.flush I.p I.H I.c := h.at_.pr.turn ha ht rfl
  have hk : SAt w' lo (n + 3 * D.np) { m with p := p' } D.flush I S := h.at_.turn (c' := I.c) hpr (ht.mono fun x hx => List.mem_cons_of_mem _ hx) (by omega) (fun x hx => by
    rcases own_p hx with hx | hx
    · exact .inl hx
    · exact .inr (by omega))
  have hlf := h.li.flush
  refine ⟨rfl, ⟨{ m with p := p' }, D.flush, I, S, ⟨h.far (hk.mono (by omega)) hlf rfl rfl rfl rfl (by show D.calls + 1 ≤ _; omega) (Nat.zero_le _) hic ht hlo (Si.all_sub (.inl rfl) (.inl rfl) fun x hx => ?_), fun a ha => ?_, fun a ha => ⟨fun a2 hu => ?_, fun e => ?_⟩⟩⟩, ht.below h.los hlo, h.kp ht hX⟩
  · simp only [Si.own, List.mem_cons] at hx ⊢
    rcases hx with e | e | e | e | hx
    · exact .inl (.inl e)
    · exact .inl (.inr (.inl e))
    · exact .inl (.inr (.inr (.inl e)))
    · exact .inl (.inr (.inr (.inr (.inl e))))
    · rcases own_p (d := I.d) (m := m) (p' := p') (List.mem_cons.2 hx) with hx | hx
      · exact .inl (.inr (.inr (.inr (.inr (List.mem_cons.1 hx)))))
      · exact .inr (by omega)
  · have hE := hh a (by have := used_lt ha; rw [h.hH] at this; omega) ha
    exact ⟨hE.c1.flush, hE.c2.flush⟩
  · have hE := hh a (by have := used_lt ha; rw [h.hH] at this; omega) ha
    have hL := hlf.lame a a2 (used_lt ha) hu
    exact ⟨cp_sound hL.c1 rfl hE.c1.flush, cp_sound hL.c2 rfl hE.c2.flush⟩
  · have hE := hh a (by have := used_lt ha; rw [h.hH] at this; omega) ha
    obtain ⟨r1, r2⟩ := hE.rt e
    unfold oneOf at *
    rw [flush_read, flush_read]
    exact ⟨r1, r2⟩
theorem LimM.ref_nat {Y : List Nat} {bs : List Addr} {w : World} {lo b n c s d : Nat} {V : Int → Option (List Nat)} {C : Nat → List Nat} {ep np : Nat} {m : Mp} {D : Dv} {I : Si} {S : St} (h : LimM Y bs w lo b n c s d V C ep np m D I S) {r : Ref} (hr : RefOf S r) (hp : 0 < r.1) : ∃ a : Nat, r.1 = (a : Int) ∧ a ∈ used S.tabs S.at_ I.H := by
  have h2 : 2 ≤ r.1 := by
    rcases hr with hr | ⟨p, hp⟩
    · obtain ⟨t, ht, rfl⟩ := List.mem_iff_getElem.1 hr
      have ht7 : t < 7 := by rw [← h.li.fit.t7]; exact ht
      have e : S.tabs.getD t (0, 0) = S.tabs[t] := by rw [List.getD_eq_getElem?_getD, List.getElem?_eq_getElem ht]; rfl
      cases hh : PgP.has S.at_ t with
      | false =>
        have := h.li.fit.tno t ht7 hh
        rw [e] at this
        rw [this] at hp
        exact absurd hp (by decide)
      | true =>
        obtain ⟨a, e1, a2, aH, au, hC⟩ := h.li.tab ht7 hh
        rw [e] at e1
        rw [e1]
        show (2 : Int) ≤ (a : Int)
        omega
    · obtain ⟨a, l, h1, rfl, h3, h4, h5⟩ := h.li.fit.old_pg hp
      show (2 : Int) ≤ (a : Int)
      omega
  refine ⟨r.1.toNat, by omega, (h.refs hr (i := r.1.toNat) (by omega) (by omega)).2⟩
/-- what is in use -/
theorem LimM.used {Y : List Nat} {bs : List Addr} {w : World} {lo b n c s d : Nat} {V : Int → Option (List Nat)} {C : Nat → List Nat} {ep np : Nat} {m : Mp} {D : Dv} {I : Si} {S : St} (h : LimM Y bs w lo b n c s d V C ep np m D I S) :
    Calls Tryz.prog 42 #[ptr s] w fun e w' => (∃ g cap zs, e = .returned (.slice (some ⟨g, 0, none⟩) zs.length cap) ∧ w'.ownsRow w.heap.size 3 1 (.slice (some ⟨g, 0, none⟩) zs.length cap) zs.length (ints zs) ∧ zs.Pairwise (· < ·) ∧ zs.length ≤ 1000 ∧ ∀ z ∈ zs, ∃ a : Nat, z = (a : Int) ∧ a ∈ PgP.used S.tabs S.at_ I.H) ∧ Below w.heap.size w w' := by
  have hu := used_w lo n m D I S w h.at_ (Fit.ok h.li.fit (by have := h.ok; omega)).2.2
  have hs := h.hs
  obtain ⟨H2, H5⟩ := h.ok
  rw [hs] at hu
  refine hu.mono ?_
  rintro e w' ⟨⟨g, c, zs, he, ho, hp, hz, hl⟩, hb⟩
  refine ⟨⟨g, c, zs, he, ho, hp, hl, fun z hm => ?_⟩, hb⟩
  rcases (hz z).1 hm with (rfl | rfl) | hm | ⟨i, r, h1, h2⟩
  · exact ⟨0, rfl, mem_used.2 ⟨by omega, .inl (by omega)⟩⟩
  · exact ⟨1, rfl, mem_used.2 ⟨by omega, .inl (by omega)⟩⟩
  · unfold tabsOf at hm
    obtain ⟨r, hr, rfl⟩ := List.mem_map.1 hm
    obtain ⟨hr1, hr2⟩ := List.mem_filter.1 hr
    exact h.ref_nat (.inl hr1) (of_decide_eq_true hr2)
  · rw [← h2]
    obtain ⟨a, l, _, rfl, h3, _⟩ := h.li.fit.old_pg h1
    exact h.ref_nat (.inr ⟨i, h1⟩) (by show (0 : Int) < (a : Int); omega)
theorem LimM.faulted {Y : List Nat} {bs : List Addr} {w : World} {lo b n c s d : Nat} {V : Int → Option (List Nat)} {C : Nat → List Nat} {ep np : Nat} {m : Mp} {D : Dv} {I : Si} {S : St} (h : LimM Y bs w lo b n c s d V C ep np m D I S) (i : Nat) (hi : i ≤ 1000000) :
    Calls Tryz.prog 43 #[ptr d, .int .i64 i] w fun e w' => e = .returned (.bool (D.fa (i : Int))) ∧ w = w' := by
  have hf := faulted_w I.d lo n m D (i : Int) w h.at_.pr.dev (fits_nat hi)
  rw [h.hd] at hf
  exact hf
/-- the device alone -/
theorem LimQ.lame {Y : List Nat} {bs : List Addr} {w : World} {lo b n c s d : Nat} {V : Int → Option (List Nat)} {C : Nat → List Nat} {ep np : Nat} {m : Mp} {D : Dv} {I : Si} {S : St} (h : LimQ Y bs w lo b n c s d V C ep np m D I S) :
    LameAt Y bs w lo b n c d V C ep np m D S ∧ ∀ a, a ∈ used S.tabs S.at_ (GeoW.half b) → Whole (GeoW.half b) S C D a := by
  have hl := h.li
  have hd := hl.hd
  have hH := hl.hH
  have ha := hl.at_.pr.dev
  have hli := hl.li
  have hw := h.wh
  rw [hd] at ha
  rw [hH] at hli hw
  exact ⟨⟨ha, hli, hl.bl, hl.b1, hl.b2, hl.cl, hl.hnp, hl.ev, hl.los, hl.ep, fun y hy => ⟨(hl.out y hy).1, fun hm => (hl.out y hy).2 (Si.own_all (UpF.own_sub (by rw [hd]; exact hm)))⟩⟩, hw⟩
theorem LameAt.turn {Y : List Nat} {bs : List Addr} {w w' : World} {i : Int} {lo b n n' c d : Nat} {V : Int → Option (List Nat)} {C : Nat → List Nat} {ep np : Nat} {m : Mp} {D D' : Dv} {S : St} (h : LameAt Y bs w lo b n c d V C ep np m D S) (ha : At w' lo d n' m D') (hli : Limp (GeoW.half b) S V C D') (hb : But D D' i) (ht : Turn (own d m) w w') : LameAt Y bs w' lo b n' c d V C ep np m D' S ∧ Below lo w w' ∧ Kp Y w w' :=
  ⟨⟨ha, hli, hb.blocks.trans h.bl, h.b1, h.b2, by rw [hb.calls]; exact h.cl, by rw [hb.np]; exact h.np, h.ev.turn ht h.at_.own_lo, Nat.le_trans h.los ht.size, h.ep, fun y hy => ⟨Nat.lt_of_lt_of_le (h.out y hy).1 ht.size, (h.out y hy).2⟩⟩, ht.below h.los h.at_.own_lo, at_kp h.at_ h.out ht⟩
/-- a copy of a whole pair fails -/
theorem LameAt.fail {Y : List Nat} {bs : List Addr} {w : World} {lo b n c d : Nat} {V : Int → Option (List Nat)} {C : Nat → List Nat} {ep np : Nat} {m : Mp} {D : Dv} {S : St} (h : LameAt Y bs w lo b n c d V C ep np m D S) (hn : n < 880000) {k i : Nat} (hk : k < GeoW.half b) (hi : i = k ∨ i = k + GeoW.half b) (hw : Whole (GeoW.half b) S C D k) :
    Calls Tryz.prog 38 #[ptr d, .int .i64 i] w fun e w' => (∃ v, e = .returned v) ∧ LameAt Y bs w' lo b (n + 3) c d V C ep np m (D.fail (i : Int)) S ∧ Below lo w w' ∧ Kp Y w w' := by
  have h5 := GeoW.half_512 b
  have hf := fail_w d lo n m D (i : Int) w h.at_ (fits_nat (by omega)) (by omega)
  refine hf.mono ?_
  rintro e w' ⟨rfl, ha, ht⟩
  exact ⟨⟨_, rfl⟩, h.turn ha (h.li.fail (half_two h.b1).1 hk (by omega) hw) (But.fail D (i : Int)) ht⟩
/-- a copy of a whole pair is turned -/
theorem LameAt.spoil {Y : List Nat} {bs : List Addr} {w : World} {lo b n c d : Nat} {V : Int → Option (List Nat)} {C : Nat → List Nat} {ep np : Nat} {m : Mp} {D : Dv} {S : St} (h : LameAt Y bs w lo b n c d V C ep np m D S) (hn : n < 880000) {k i : Nat} (hk : k < GeoW.half b) (hi : i = k ∨ i = k + GeoW.half b) (hw : Whole (GeoW.half b) S C D k) (hs : k < 2 → Spot D k ∧ Spot D (k + GeoW.half b)) (hy : Crc.Bytes (keptOf D (i : Int))) (p t : Nat) (hp : p ≤ 1000) (ht : t < 4294967296) :
    Calls Tryz.prog 39 #[ptr d, .int .i64 i, .int .i64 p, .int .u32 t] w fun e w' => (∃ v, e = .returned v) ∧ LameAt Y bs w' lo b (n + 3) c d V C ep np m (D.spoil (i : Int) (p : Int) t) S ∧ Below lo w w' ∧ Kp Y w w' := by
  have h5 := GeoW.half_512 b
  have hf := spoil_w d lo n m D (i : Int) (p : Int) t w h.at_ (fits_nat (by omega)) (by omega) (fits_nat (by omega)) ht hy
  refine hf.mono ?_
  rintro e w' ⟨rfl, ha, ht'⟩
  exact ⟨⟨_, rfl⟩, h.turn ha (h.li.spoil (half_two h.b1).1 hk (by omega) hw hs p t ht hy) (But.spoil D (i : Int) (p : Int) t) ht'⟩
/-- the device of a store that has committed all: no pair was faulted -/
theorem Store.left {Y : List Nat} {bs : List Addr} {w : World} {lo b n c s d : Nat} {V : Int → Option (List Nat)} {ep : Nat} (h : Store Y bs w lo b n c s d V (fun _ => none) ep) (h0 : 0 < ep) :
    ∃ C m D S, LameAt Y bs w lo b n c d V C ep 0 m D S ∧ Left (GeoW.half b) S C D (fun _ => false) := by
  obtain ⟨m, D, I, S, h⟩ := h
  obtain ⟨C, hl, hs⟩ := h.st.limp
  have hS : ({ S with now := fun _ => none } : St) = S := by
    have h1 := h.now
    obtain ⟨ep, rs, tabs, at_, now⟩ := S
    simp only at h1
    subst h1
    rfl
  have hsp := h.st.sp
  have hrt := h.st.root.two (by rw [h.ep]; exact h0)
  rw [hS] at hl
  rw [h.hH] at hl hs hsp hrt
  have hcl := h.cl
  have hnp := h.st.idle.np
  refine ⟨C, m, D, S, ⟨by rw [← h.hd]; exact h.at_.pr.dev, hl, h.bl, h.b1, h.b2, by omega, by omega, h.ev, h.los, h.ep, fun y hy => ⟨(h.out y hy).1, fun hm => (h.out y hy).2 (Si.own_all (UpF.own_sub (by rw [h.hd]; exact hm)))⟩⟩, fun k hk _ => ⟨fun k2 hu => (hs k k2 hk hu).2, fun e => ?_⟩, fun k hk _ => ?_, fun i => h.st.idle.kept i⟩
  · rw [e]; exact hrt
  · exact ⟨hsp _ (spot_i hk).1, hsp _ (spot_i hk).2⟩
end Go.Proofs.YtbjfgdahfpfgdaaGreatDoor.PgW

namespace Go.Proofs.YtbjfgdahfpfgdaaGreatDoor.PgW
open Go Go.RowKit Go.Maps Go.Proofs.YtbjfgdahfpfgdaaGreatDoor.Mem Go.Proofs.YtbjfgdahfpfgdaaGreatDoor.MapsW Go.Proofs.YtbjfgdahfpfgdaaGreatDoor.SeeW Go.Proofs.YtbjfgdahfpfgdaaGreatDoor.DevG Go.Proofs.YtbjfgdahfpfgdaaGreatDoor.PairG Go.Proofs.YtbjfgdahfpfgdaaGreatDoor.RefsW Go.Proofs.YtbjfgdahfpfgdaaGreatDoor.PgP Go.Proofs.YtbjfgdahfpfgdaaGreatDoor.RootP Go.Proofs.YtbjfgdahfpfgdaaGreatDoor.RootW Go.Proofs.YtbjfgdahfpfgdaaGreatDoor.Ints
set_option linter.unusedVariables false
set_option maxRecDepth 100000

theorem LimM.all_lt {Y : List Nat} {bs : List Addr} {w : World} {lo b n c s d : Nat} {V : Int → Option (List Nat)} {C : Nat → List Nat} {ep np : Nat} {m : Mp} {D : Dv} {I : Si} {S : St} (h : LimM Y bs w lo b n c s d V C ep np m D I S) : ∀ x ∈ I.all m, x < w.heap.size := by
  intro x hx
  rcases List.mem_cons.1 hx with e | hx
  · obtain ⟨b', o', e', hc, _⟩ := h.at_.tabs.at (j := 0) (by rw [h.at_.tabs.len]; decide)
    cases e'
    rw [e]
    exact World.block_lt_of_cell? _ _ hc
  · rcases List.mem_append.1 hx with hx | hx
    · obtain ⟨o, e⟩ := mem_raB hx
      exact (h.at_.rx x o e).1
    · exact h.at_.own_lt x hx
theorem LimM.on {Y : List Nat} {bs : List Addr} {w w' : World} {lo b n c s d : Nat} {V : Int → Option (List Nat)} {C : Nat → List Nat} {ep np : Nat} {m : Mp} {D : Dv} {I : Si} {S : St} (h : LimM Y bs w lo b n c s d V C ep np m D I S) (hb : Below w.heap.size w w') : LimM Y bs w' lo b n c s d V C ep np m D I S :=
  h.far (h.at_.below hb) h.li rfl rfl rfl rfl h.cl h.hnp h.ic (Turn.of_below (S := []) hb) (fun x hx => by cases hx) fun x hx => .inl hx
theorem LimM.mono {Y : List Nat} {bs : List Addr} {w : World} {lo b n n' c c' s d : Nat} {V : Int → Option (List Nat)} {C : Nat → List Nat} {ep np np' : Nat} {m : Mp} {D : Dv} {I : Si} {S : St} (h : LimM Y bs w lo b n c s d V C ep np m D I S) (hn : n ≤ n') (hc : c ≤ c') (hp : np ≤ np') : LimM Y bs w lo b n' c' s d V C ep np' m D I S :=
  h.far (h.at_.mono hn) h.li rfl rfl rfl rfl (Nat.le_trans h.cl hc) (Nat.le_trans h.hnp hp) (Nat.le_trans h.ic hp) (Turn.refl [] _) (fun x hx => by cases hx) fun x hx => .inl hx
/-- what is written into another block leaves the store -/
theorem LimM.set {Y : List Nat} {bs : List Addr} {w w' : World} {lo b n c s d : Nat} {V : Int → Option (List Nat)} {C : Nat → List Nat} {ep np : Nat} {m : Mp} {D : Dv} {I : Si} {S : St} (h : LimM Y bs w lo b n c s d V C ep np m D I S) {y : Nat} (ho : y ∉ I.all m) (ht : Turn [y] w w') (hb : NoCells w y ∨ ∃ v, w.cell? ⟨y, 0, none⟩ = some v ∧ ∀ z, v ≠ .int .u8 z) (hl : lo ≤ y) : LimM Y bs w' lo b n c s d V C ep np m D I S := by
  have k := h.at_.away ht (fun x hx => by rw [List.mem_singleton.1 hx]; exact ⟨fun hm => ho (Si.own_all hm), fun e => ho (by rw [e]; exact List.mem_cons_self), fun b o e1 e2 => ho (by rw [e2]; exact List.mem_cons_of_mem _ (List.mem_append.2 (.inl (by unfold raB; rw [e1]; simp))))⟩) (fun x hx => by rw [List.mem_singleton.1 hx]; exact hb)
  exact h.far k h.li rfl rfl rfl rfl h.cl h.hnp h.ic ht (fun x hx => by rw [List.mem_singleton.1 hx]; exact hl) fun x hx => .inl hx
theorem Lim.readM {Y : List Nat} {bs : List Addr} {w : World} {lo b n c s d : Nat} {V : Int → Option (List Nat)} {C : Nat → List Nat} {ep np : Nat} {m : Mp} {D : Dv} {I : Si} {S : St} (h : LimM Y bs w lo b n c s d V C ep np m D I S) (hn : n < 680000) (hc : c < 700000) (hnp : np < 900000) {p : Int} (hp : isP p = true) :
    Calls Tryz.prog 19 #[ptr s, .int .i64 p] w fun e w' => (match V p with
      | none => ∃ a, bs[8]? = some a ∧ e = .returned (.tuple #[.slice none 0 0, ev a])
      | some l => ∃ a cap, e = .returned (.tuple #[.slice a l.length cap, .nilIface]) ∧ Nums .u8 w' a l.length cap l) ∧ (∃ D' c', LimM Y bs w' lo b (n + 1) (c + 1) s d V C ep (np + 1) m D' { I with c := c' } S) ∧ Turn (I.p :: own I.d m) w w' := by
  obtain ⟨p0, p1, hf⟩ := isP_fits hp
  have hth := h.li.there p
  have hcl := h.cl
  have hnp2 := h.hnp
  have hic := h.ic
  have hX : ∀ x ∈ I.p :: own I.d m, lo ≤ x := fun x hx => by
    rcases List.mem_cons.1 hx with rfl | hx
    · exact h.at_.pr.lop
    · exact h.at_.pr.dev.own_lo x hx
  cases hv : V p with
  | none =>
    rw [hv] at hth
    have hr := read_bad bs lo n m D I S p w h.at_ h.ev hf 8 (.inr ⟨hp, hth, rfl⟩)
    rw [h.hs] at hr
    refine hr.mono ?_
    rintro e w' ⟨h1, h2⟩
    exact ⟨h1, ⟨D, I.c, h.far ((h.at_.below h2).mono (by omega)) h.li rfl rfl rfl rfl (by omega) (by omega) (by show I.c ≤ _; omega) (Turn.of_below (S := []) h2) (fun x hx => by cases hx) fun x hx => .inl hx⟩, Turn.of_below h2⟩
  | some l =>
    obtain ⟨a, e1, e2, e3, e4⟩ := h.li.fit.pg p l hv
    have hz := h.li.fit.dom p (by rw [hv]; rfl)
    have e' : S.at_ ((p.toNat : Nat) : Int) = some ((a : Int), Crc.sum (pblk l)) := by rw [show ((p.toNat : Nat) : Int) = p by omega]; exact e1
    have au : a ∈ used S.tabs S.at_ I.H := mem_used.2 ⟨e3, .inr (.inr ⟨p.toNat, by omega, _, e', rfl⟩)⟩
    have hl := h.li.lame a e2 e3 au
    have hput := h.li.put e2 e3 au a (.inl rfl)
    rw [e4] at hl hput
    have hN : S.now p = none := by rw [h.li.now]
    have hrp : ∃ D' c', PairG.readP D I.H I.c a (Crc.sum (pblk l)) = (some (pblk l), D', c') ∧ Limp I.H S V C D' ∧ D'.blocks = D.blocks ∧ D'.calls ≤ D.calls + 1 ∧ D'.np ≤ D.np + 1 ∧ c' ≤ I.c + 1 := by
      rcases hl.readP I.c with ⟨g, _⟩ | ⟨g, _⟩
      · exact ⟨D, I.c, g, h.li, rfl, by omega, by omega, by omega⟩
      · exact ⟨_, _, g, hput, rfl, Nat.le_refl _, put_np D (a : Int) (pblk l), Nat.le_refl _⟩
    obtain ⟨D', c', g, g1, g2, g3, g4, g5⟩ := hrp
    have hr := read_at bs lo n m D D' I S p l a _ c' w h.at_ h.ev hp hN e1 e3 (by omega) (h.li.fit.len p l hv).2.1 h.li.down h.li.fuse h.li.bytes (by omega) (by omega) (by omega) g g2
    rw [h.hs] at hr
    refine hr.mono ?_
    rintro e w' ⟨⟨x, cap, h1, h2, _⟩, k, ht⟩
    exact ⟨⟨x, cap, h1, h2⟩, ⟨D', c', h.far (by have e := h.hs; subst e; exact k) g1 rfl rfl rfl g2 (by omega) (by omega) (by show c' ≤ _; omega) ht hX (Si.all_sub (.inl rfl) (.inl rfl) fun x hx => .inl hx)⟩, ht⟩
theorem LimM.pages {Y : List Nat} {bs : List Addr} {w : World} {lo b n c s d : Nat} {V : Int → Option (List Nat)} {C : Nat → List Nat} {ep np : Nat} {m : Mp} {D : Dv} {I : Si} {S : St} (h : LimM Y bs w lo b n c s d V C ep np m D I S) :
    Calls Tryz.prog 45 #[ptr s] w fun e w' => (∃ a cap, e = .returned (.slice a (there (fun _ => none) V).length cap) ∧ Nums .i64 w' a (there (fun _ => none) V).length cap (there (fun _ => none) V)) ∧ Below w.heap.size w w' := by
  have hp := pages_w lo n m D I S w h.at_
  have e : psOf S 256 = there (fun _ => none) V := by
    unfold psOf there
    refine List.filter_congr fun p _ => ?_
    rw [h.li.there]
    rfl
  rw [e, h.hs] at hp
  exact hp
theorem LimM.epoch {Y : List Nat} {bs : List Addr} {w : World} {lo b n c s d : Nat} {V : Int → Option (List Nat)} {C : Nat → List Nat} {ep np : Nat} {m : Mp} {D : Dv} {I : Si} {S : St} (h : LimM Y bs w lo b n c s d V C ep np m D I S) :
    Calls Tryz.prog 21 #[ptr s] w fun e w' => e = .returned (.int .i64 (ep : Int)) ∧ w' = w := by
  have hp := epoch_w lo n m D I S w h.at_
  rw [h.ep, h.hs] at hp
  exact hp
theorem own_far {X : List Nat} {w w' : World} {base : Nat} {e : TypeId} {size : Nat} {v : Value} {n : Nat} {xs : List Value} (h : w.ownsRow base e size v n xs) (ht : Turn X w w') (hX : ∀ x ∈ X, x < base) : w'.ownsRow base e size v n xs := by
  rcases h with ⟨h1, ⟨rfl, h2⟩ | ⟨g, c, cur, rfl, hb, hc, q⟩⟩
  · exact ⟨h1, .inl ⟨rfl, h2⟩⟩
  · exact ⟨h1, .inr ⟨g, c, cur, rfl, hb, (ht.block g (Array.getElem?_eq_some_iff.1 hc).1 fun hm => by have := hX g hm; omega).trans hc, q⟩⟩
/-- what is read -/
def ReadL (bs : List Addr) (o : Option (List Nat)) (e : Ending) (w' : World) : Prop := match o with
  | none => ∃ a, bs[8]? = some a ∧ e = .returned (.tuple #[.slice none 0 0, ev a])
  | some l => ∃ a cap, e = .returned (.tuple #[.slice a l.length cap, .nilIface]) ∧ Nums .u8 w' a l.length cap l
end Go.Proofs.YtbjfgdahfpfgdaaGreatDoor.PgW
namespace Go.Proofs.YtbjfgdahfpfgdaaGreatDoor.PgW
open Go Go.RowKit Go.Maps Go.Proofs.YtbjfgdahfpfgdaaGreatDoor.Mem Go.Proofs.YtbjfgdahfpfgdaaGreatDoor.MapsW Go.Proofs.YtbjfgdahfpfgdaaGreatDoor.SeeW Go.Proofs.YtbjfgdahfpfgdaaGreatDoor.DevG Go.Proofs.YtbjfgdahfpfgdaaGreatDoor.PairG Go.Proofs.YtbjfgdahfpfgdaaGreatDoor.RefsW Go.Proofs.YtbjfgdahfpfgdaaGreatDoor.PgP Go.Proofs.YtbjfgdahfpfgdaaGreatDoor.RootP Go.Proofs.YtbjfgdahfpfgdaaGreatDoor.RootW Go.Proofs.YtbjfgdahfpfgdaaGreatDoor.Ints
set_option linter.unusedVariables false
/-- a row of one's own beside the store grows -/
theorem LimM.push {Y : List Nat} {bs : List Addr} {w2 w3 : World} {lo b n c s d : Nat} {V : Int → Option (List Nat)} {C : Nat → List Nat} {ep np : Nat} {m : Mp} {D : Dv} {I : Si} {S : St} (h : LimM Y bs w2 lo b n c s d V C ep np m D I S) {o : Obj} {base : Nat} {e : TypeId} {v : Value} {k : Nat} {xs : List Value}
    (hall : ∀ x ∈ I.all m, x < base) (hlo : lo ≤ base) (own : w2.ownsRow base e 1 v k xs) (hnil : k = 0 → v.ownBlock = none) (hint : ∀ u ∈ xs, ∀ z, u ≠ .int .u8 z) (hg : (w2.alloc o).grownBy w3 v.ownBlock) :
    LimM Y bs w3 lo b n c s d V C ep np m D I S ∧ ∀ (X : List Nat) (w : World), Turn X w w2 → w.heap.size ≤ base → Turn X w w3 := by
  have ha := h.on ((Below.refl w2.heap.size w2).alloc (Nat.le_refl _) o)
  have hta : Turn [] w2 (w2.alloc o) := Turn.of_below ((Below.refl w2.heap.size w2).alloc (Nat.le_refl _) o)
  have owna := own.alloc o
  rcases own with ⟨h1, ⟨rfl, h2⟩ | ⟨g, cp, cur, rfl, hb, hc, q⟩⟩
  · have hb3 : Below (w2.alloc o).heap.size (w2.alloc o) w3 := (Below.refl _ _).grown hg (Nat.le_refl _) (fun j hj => by cases hj)
    exact ⟨ha.on hb3, fun X w ht _ => (ht.trans hta (fun x hx => by cases hx)).then (Turn.of_below hb3)⟩
  · have ht : Turn [g] (w2.alloc o) w3 := Turn.of_grown hg (by simp)
    have hk : k ≠ 0 := fun e => by have := hnil e; cases this
    have hx : ∃ u, xs[0]? = some u ∧ u ∈ xs := by
      have hl : xs.length = k * 1 := h1
      cases xs with
      | nil => simp at hl; omega
      | cons u xs => exact ⟨u, rfl, by simp⟩
    obtain ⟨u, hu, hm⟩ := hx
    obtain ⟨va, vc, e1, hr⟩ := ownsRow_slice owna
    cases e1
    have h0 := Row.cell hr (j := 0) hu
    refine ⟨ha.set (fun hm' => by have := hall g hm'; omega) ht (.inr ⟨u, h0, fun z => hint u hm z⟩) (by omega), fun X w hw hB => (hw.trans hta (fun x hx => by cases hx)).trans ht fun x hx => .inr ?_⟩
    rw [List.mem_singleton.1 hx]
    omega
end Go.Proofs.YtbjfgdahfpfgdaaGreatDoor.PgW

namespace Go.Proofs.YtbjfgdahfpfgdaaGreatDoor.PgW
open Go Go.RowKit Go.Maps Go.Proofs.YtbjfgdahfpfgdaaGreatDoor.Mem Go.Proofs.YtbjfgdahfpfgdaaGreatDoor.MapsW Go.Proofs.YtbjfgdahfpfgdaaGreatDoor.SeeW Go.Proofs.YtbjfgdahfpfgdaaGreatDoor.DevG Go.Proofs.YtbjfgdahfpfgdaaGreatDoor.PairG Go.Proofs.YtbjfgdahfpfgdaaGreatDoor.RefsW Go.Proofs.YtbjfgdahfpfgdaaGreatDoor.PgP Go.Proofs.YtbjfgdahfpfgdaaGreatDoor.RootP Go.Proofs.YtbjfgdahfpfgdaaGreatDoor.RootW
set_option linter.unusedVariables false
set_option maxRecDepth 100000

/-- nothing -/
abbrev Non : Int → Option (List Nat) := fun _ => none
theorem new_best (b : Nat) : bestOf (Dv.new b) (GeoW.half b) = ⟨0, []⟩ := best_none fun s _ => by
  unfold oneOf
  rw [Dv.new_read]
  exact parse_zeros
theorem byte1 (w : World) (x : Nat) : Nums .u8 (w.alloc (.cells #[.int .u8 (x : Int)] 5)) (some ⟨w.heap.size, 0, none⟩) 1 1 [x] := by
  refine ⟨rfl, Nat.le_refl _, by decide, (fun e => nomatch e), fun j u hj => ⟨_, _, rfl, ?_⟩⟩
  cases j with
  | zero => cases hj; rw [World.cell?, heap_alloc_new]; rfl
  | succ j => simp [nums] at hj
set_option maxHeartbeats 800000 in
theorem opened_w (bs : List Addr) (lo b : Nat) (w : World) (hB : Ev w lo bs seven) (hlo : lo ≤ w.heap.size) (h1 : 300 ≤ b) (h2 : b ≤ 6000) :
    Calls Tryz.prog 14 #[.int .i64 b] w fun e w' => ∃ s d, e = .returned (.tuple #[ptr s, ptr d]) ∧ Store [] bs w' lo b 400 0 s d Non Non 0 ∧ Below w.heap.size w w' := by
  go_enter Tryz.func14, Tryz.ntmps14
  go_wp2_with fail
  refine (new_w b _ (by omega) (by omega)).mono ?_
  rintro e w1 ⟨rfl, k1, b1, z1⟩
  have hB1 := hB.below b1
  have ho := open_none bs lo _ _ _ _ w1 (k1.mono (Nat.le_refl _) hlo) (hB1.sub (by decide)) (by exact h1) (by exact h2) (by omega) rfl (Dv.Idle.new b).bytes (new_best b)
  have HX := hid (And.intro hB1 b1)
  have HH := hid (And.intro h1 h2)
  clear k1 hB hB1 b1 h1 h2
  go_wp2_with fail
  refine ho.mono ?_
  rintro e w2 ⟨I, rfl, K, hd, hH, hz, hc, hown, _, b2⟩
  have hU : Store [] bs w2 lo b 400 0 I.s (w.heap.size + 5) Non Non 0 := ⟨_, _, I, St0, K.mono (by omega), Stand.fresh b I.H, rfl, hd, hH, rfl, HH.out.1, HH.out.2, rfl, by omega, HX.out.1.below b2, by have := b2.size; omega, rfl, rfl, fun y hy => (by cases hy)⟩
  have HU := hid hU
  have HB2 := hid (HX.out.2.trans (b2.mono HX.out.2.size))
  clear ho K hd hH hz hc hown b2 hU
  go_wp2_with fail
  exact bodyPost_ret (v := .tuple #[ptr I.s, ptr (w.heap.size + 5)]) (by simp [results, Tryz.results14, go_sem]) rfl ⟨_, _, rfl, HU.out, HB2.out⟩
theorem isP_of {p : Nat} (h : p < 256) : isP (p : Int) = true := by unfold isP; rw [decide_eq_true (by omega), decide_eq_true (by omega)]; rfl
/-- a page written alone -/
theorem view_upd (N V : Int → Option (List Nat)) (p : Int) {l : List Nat} (hl : l ≠ []) (i : Int) : view (upd N p (some l)) V i = if i = p then some l else view N V i := by
  unfold view
  by_cases e : i = p
  · subst e
    rw [upd_same, if_pos rfl]
    cases l with
    | nil => exact absurd rfl hl
    | cons y l => rfl
  · rw [upd_other _ _ e, if_neg e]
set_option maxHeartbeats 3200000 in
theorem first_w (bs : List Addr) (w : World) (hB : Ev w w.heap.size bs seven) : Calls Tryz.prog 11 #[] w fun e w' => e = .returned (.bool true) ∧ Below w.heap.size w w' := by
  go_enter Tryz.func11, Tryz.ntmps11
  go_wp2_with fail
  refine (opened_w bs w.heap.size 500 w hB (Nat.le_refl _) (by decide) (by decide)).mono ?_
  rintro e w1 ⟨s, d, rfl, K1, b1⟩
  have hp := K1.pages
  have HK1 := hid K1
  have HB1 := hid b1
  have e0 : there Non Non = [] := by decide
  rw [e0] at hp
  clear hB K1 b1 e0
  go_wp2_with fail
  refine hp.mono ?_
  rintro e w2 ⟨⟨a2, c2, rfl, n2⟩, b2⟩
  have HK2 := hid (HK1.out.below b2)
  have HB2 := hid (HB1.out.trans (b2.mono HB1.out.size))
  have hbd := n2.bound
  clear hp n2 b2
  have bA := (Below.refl w2.heap.size w2).alloc (Nat.le_refl _) (.cells #[.int .u8 ((7 : Nat) : Int)] 5)
  have hw := (HK2.out.below bA).write (by decide) (p := ((3 : Nat) : Int)) (isP_of (by decide)) (byte1 w2 7) (by decide) (by decide) (by intro x hx; simp at hx; omega)
  have HBA := hid (HB2.out.trans (bA.mono HB2.out.size))
  clear bA
  go_wp2_with fail
  refine hw.mono ?_
  rintro e w3 ⟨rfl, K3, b3, _⟩
  have HB3 := hid (HBA.out.trans b3)
  have hc0 : cnt (upd Non ((3 : Nat) : Int) (some [7])) ≠ 0 := cnt_pos (i := 3) (by decide) (by decide) rfl
  have hc1 := cnt_le256 (upd Non ((3 : Nat) : Int) (some [7]))
  have hc2 : cnt (view (upd Non ((3 : Nat) : Int) (some [7])) Non) ≤ 4 := cnt_le fun p hp => by
    rw [view_upd _ _ _ (by simp)] at hp
    split at hp
    · omega
    · cases hp
  have hco := K3.commit (q := 4) (by omega) (by decide) (by decide) hc0 (by decide) hc2 (by decide)
  clear hw K3 b3 hc0 hc2
  go_wp2_with fail
  refine hco.mono ?_
  rintro e w4 ⟨rfl, ⟨c4, hc4, K4⟩, b4, _⟩
  have HB4 := hid (HB3.out.trans b4)
  have hop := K4.open_ (by omega) (by omega) (by decide)
  clear hco b4 K4
  go_wp2_with fail
  refine hop.mono ?_
  rintro e w5 ⟨⟨s5, rfl, K5⟩, b5, _⟩
  have HB5 := hid (HB4.out.trans b5)
  have hrd := K5.read (by omega) (by omega) (p := ((3 : Nat) : Int)) (isP_of (by decide))
  rw [show view (fun _ => none) (view (upd Non ((3 : Nat) : Int) (some [7])) Non) ((3 : Nat) : Int) = some [7] from rfl] at hrd
  clear hop b5 K5
  go_wp2_with fail
  refine hrd.mono ?_
  rintro e w6 ⟨⟨a6, cap6, rfl, n6⟩, K6, b6, _, _⟩
  have HB6 := hid (HB5.out.trans b6)
  have bA := (Below.refl w6.heap.size w6).alloc (Nat.le_refl _) (.cells #[.int .u8 ((7 : Nat) : Int)] 5)
  have hsm := RefW.same_w a6 1 cap6 [7] (some ⟨w6.heap.size, 0, none⟩) 1 1 [7] _ (n6.below bA) (byte1 w6 7)
  rw [decide_eq_true rfl] at hsm
  have HBA6 := hid (HB6.out.trans (bA.mono HB6.out.size))
  clear hrd b6 K6 n6 bA
  go_wp2_with fail
  refine hsm.mono ?_
  rintro e w7 ⟨rfl, b7⟩
  have HB7 := hid (HBA6.out.trans (b7.mono HBA6.out.size))
  clear hsm b7
  go_wp2_with fail
  go_ret
  exact ⟨rfl, HB7.out⟩
end Go.Proofs.YtbjfgdahfpfgdaaGreatDoor.PgW

namespace Go.Proofs.YtbjfgdahfpfgdaaGreatDoor.PgW
open Go Go.RowKit Go.Maps Go.Proofs.YtbjfgdahfpfgdaaGreatDoor.Mem Go.Proofs.YtbjfgdahfpfgdaaGreatDoor.MapsW Go.Proofs.YtbjfgdahfpfgdaaGreatDoor.SeeW Go.Proofs.YtbjfgdahfpfgdaaGreatDoor.DevG Go.Proofs.YtbjfgdahfpfgdaaGreatDoor.PgP
set_option linter.unusedVariables false
set_option maxRecDepth 100000

/-- a row of bytes as a value -/
structure Rw where
  a : Option Addr
  cap : Nat
  l : List Nat
abbrev Rw.v (r : Rw) : Value := .slice r.a r.l.length r.cap
abbrev Rw.nil : Rw := ⟨none, 0, []⟩
/-- what a model has -/
structure Md where
  now : Nat → Rw
  was : Nat → Rw
  on : Nat → Bool
  had : Nat → Bool
  ep : Nat
  tou : Nat → Bool
/-- its cells -/
def Md.val (M : Md) (j : Nat) : Value :=
  if j < 30 then (M.now j).v else if j < 60 then (M.was (j - 30)).v else if j < 90 then .bool (M.on (j - 60)) else if j < 120 then .bool (M.had (j - 90)) else if j < 121 then .int .i64 M.ep else .bool (M.tou (j - 121))
theorem Md.val_now (M : Md) {i : Nat} (h : i < 30) : M.val i = (M.now i).v := by unfold Md.val; rw [if_pos h]
theorem Md.val_was (M : Md) {i : Nat} (h : i < 30) : M.val (30 + i) = (M.was i).v := by unfold Md.val; rw [if_neg (by omega), if_pos (by omega), Nat.add_sub_cancel_left]
theorem Md.val_on (M : Md) {i : Nat} (h : i < 30) : M.val (60 + i) = .bool (M.on i) := by unfold Md.val; rw [if_neg (by omega), if_neg (by omega), if_pos (by omega), Nat.add_sub_cancel_left]
theorem Md.val_had (M : Md) {i : Nat} (h : i < 30) : M.val (90 + i) = .bool (M.had i) := by unfold Md.val; rw [if_neg (by omega), if_neg (by omega), if_neg (by omega), if_pos (by omega), Nat.add_sub_cancel_left]
theorem Md.val_ep (M : Md) : M.val 120 = .int .i64 M.ep := by unfold Md.val; rw [if_neg (by omega), if_neg (by omega), if_neg (by omega), if_neg (by omega), if_pos (by omega)]
theorem Md.val_tou (M : Md) {i : Nat} (h : i < 30) : M.val (121 + i) = .bool (M.tou i) := by unfold Md.val; rw [if_neg (by omega), if_neg (by omega), if_neg (by omega), if_neg (by omega), if_neg (by omega), Nat.add_sub_cancel_left]
theorem Md.val_u8 (M : Md) (j : Nat) (z : Int) : M.val j ≠ .int .u8 z := by
  unfold Md.val
  split
  · simp
  split
  · simp
  split
  · simp
  split
  · simp
  split
  · simp
  · simp
/-- a model lies at block x -/
structure MdAt (w : World) (x : Nat) (M : Md) : Prop where
  blk : ∃ cs : Array Value, w.heap[x]? = some (.cells cs 53) ∧ cs.size = 151
  at_ : ∀ j, j < 151 → w.cell? ⟨x, j, none⟩ = some (M.val j)
  now : ∀ i, i < 30 → Nums .u8 w (M.now i).a (M.now i).l.length (M.now i).cap (M.now i).l
  was : ∀ i, i < 30 → Nums .u8 w (M.was i).a (M.was i).l.length (M.was i).cap (M.was i).l
theorem MdAt.lt {w : World} {x : Nat} {M : Md} (h : MdAt w x M) : x < w.heap.size := let ⟨_, e, _⟩ := h.blk; (Array.getElem?_eq_some_iff.1 e).1
theorem MdAt.frozen {w : World} {x : Nat} {M : Md} (h : MdAt w x M) (j : Nat) : w.frozen? ⟨x, j, none⟩ = false := by
  obtain ⟨cs, e, _⟩ := h.blk
  simp [World.frozen?, e]
theorem MdAt.u8 {w : World} {x : Nat} {M : Md} (h : MdAt w x M) : ∀ y ∈ [x], ∀ off z, w.cell? ⟨y, off, none⟩ ≠ some (.int .u8 z) := by
  intro y hy off z
  rw [List.mem_singleton.1 hy]
  rcases Nat.lt_or_ge off 151 with ho | ho
  · rw [h.at_ off ho]
    exact fun e => M.val_u8 off z (Option.some.inj e)
  · obtain ⟨cs, e, hs⟩ := h.blk
    simp [World.cell?, e, Array.getElem?_eq_none (show cs.size ≤ off by omega)]
theorem MdAt.c0 {w : World} {x : Nat} {M : Md} (h : MdAt w x M) : ∃ v, w.cell? ⟨x, 0, none⟩ = some v ∧ ∀ z, v ≠ .int .u8 z := ⟨_, h.at_ 0 (by decide), fun z => M.val_u8 0 z⟩
theorem MdAt.keep {w w' : World} {x : Nat} {M : Md} (h : MdAt w x M) (e : w'.heap[x]? = w.heap[x]?) (hr : ∀ (a : Option Addr) (n cap : Nat) (l : List Nat), Nums .u8 w a n cap l → Nums .u8 w' a n cap l) : MdAt w' x M :=
  ⟨by rw [e]; exact h.blk, fun j hj => by rw [World.cell?_of_block (w := w) e]; exact h.at_ j hj, fun i hi => hr _ _ _ _ (h.now i hi), fun i hi => hr _ _ _ _ (h.was i hi)⟩
theorem MdAt.below {w w' : World} {x : Nat} {M : Md} (h : MdAt w x M) (hb : Below w.heap.size w w') : MdAt w' x M := h.keep (hb.block x h.lt) fun a n cap l hl => Nums.below hl hb
theorem MdAt.kp {Y : List Nat} {w w' : World} {x : Nat} {M : Md} (h : MdAt w x M) (k : Kp Y w w') (hx : x ∈ Y) : MdAt w' x M := h.keep (k.blk x hx) k.row
/-- some cells are others -/
theorem MdAt.over {w w' : World} {x : Nat} {M M' : Md} (h : MdAt w x M) (hb : ∃ cs : Array Value, w'.heap[x]? = some (.cells cs 53) ∧ cs.size = 151) (ht : Turn [x] w w') (hc : ∀ j, j < 151 → w'.cell? ⟨x, j, none⟩ = some (M'.val j))
    (h1 : ∀ i, i < 30 → Nums .u8 w (M'.now i).a (M'.now i).l.length (M'.now i).cap (M'.now i).l) (h2 : ∀ i, i < 30 → Nums .u8 w (M'.was i).a (M'.was i).l.length (M'.was i).cap (M'.was i).l) : MdAt w' x M' :=
  ⟨hb, hc, fun i hi => DevG.nums_turn (h1 i hi) ht h.u8, fun i hi => DevG.nums_turn (h2 i hi) ht h.u8⟩
theorem setCell_blk {w : World} {x : Nat} {t : TypeId} {k : Nat} (h : ∃ cs : Array Value, w.heap[x]? = some (.cells cs t) ∧ cs.size = k) (o : Nat) (v : Value) : ∃ cs : Array Value, (w.setCell ⟨x, o, none⟩ v).heap[x]? = some (.cells cs t) ∧ cs.size = k := by
  obtain ⟨cs, h1, h2⟩ := h
  exact ⟨_, heap_setCell_same w x o cs _ _ h1, by simp [h2]⟩
theorem setCells_blk {x : Nat} {t : TypeId} {k : Nat} : ∀ (vs : List Value) (o : Nat) (w : World), (∃ cs : Array Value, w.heap[x]? = some (.cells cs t) ∧ cs.size = k) → ∃ cs : Array Value, (w.setCells x o vs).heap[x]? = some (.cells cs t) ∧ cs.size = k
  | [], _, w, h => h
  | v :: r, o, w, h => setCells_blk r (o + 1) _ (setCell_blk h o v)
/-- one cell is another -/
theorem MdAt.set1 {w : World} {x : Nat} {M M' : Md} (h : MdAt w x M) (o : Nat) (v : Value) (hv : M'.val o = v) (hM : ∀ j, j < 151 → j ≠ o → M'.val j = M.val j) (ho : o < 151)
    (h1 : ∀ i, i < 30 → Nums .u8 w (M'.now i).a (M'.now i).l.length (M'.now i).cap (M'.now i).l) (h2 : ∀ i, i < 30 → Nums .u8 w (M'.was i).a (M'.was i).l.length (M'.was i).cap (M'.was i).l) : MdAt (w.setCell ⟨x, o, none⟩ v) x M' := by
  refine h.over (setCell_blk h.blk o v) (Turn.setCell w x o v (by simp)) (fun j hj => ?_) h1 h2
  by_cases e : j = o
  · subst e
    rw [World.cell?_setCell_same w _ _ (h.at_ j hj), hv]
  · rw [World.cell?_setCell_other w (a := ⟨x, o, none⟩) (b := ⟨x, j, none⟩) (v := _) (fun h => e (congrArg Addr.off h).symm), hM j hj e]
    exact h.at_ j hj
/-- f with another value at i -/
def ups {α : Type} (f : Nat → α) (i : Nat) (v : α) : Nat → α := fun j => if j = i then v else f j
theorem ups_same {α : Type} (f : Nat → α) (i : Nat) (v : α) : ups f i v i = v := if_pos rfl
theorem ups_other {α : Type} (f : Nat → α) {i j : Nat} (v : α) (h : j ≠ i) : ups f i v j = f j := if_neg h
theorem MdAt.setOn {w : World} {x : Nat} {M : Md} (h : MdAt w x M) {i : Nat} (hi : i < 30) (v : Bool) : MdAt (w.setCell ⟨x, 60 + i, none⟩ (.bool v)) x { M with on := ups M.on i v } := by
  refine h.set1 (60 + i) _ (by rw [Md.val_on _ hi]; show Value.bool (ups M.on i v i) = _; rw [ups_same]) (fun j hj hne => ?_) (by omega) h.now h.was
  unfold Md.val
  split <;> try rfl
  split <;> try rfl
  split
  · show Value.bool (ups M.on i v (j - 60)) = _
    rw [ups_other _ _ (by omega)]
  · rfl
theorem MdAt.setTou {w : World} {x : Nat} {M : Md} (h : MdAt w x M) {i : Nat} (hi : i < 30) (v : Bool) : MdAt (w.setCell ⟨x, 121 + i, none⟩ (.bool v)) x { M with tou := ups M.tou i v } := by
  refine h.set1 (121 + i) _ (by rw [Md.val_tou _ hi]; show Value.bool (ups M.tou i v i) = _; rw [ups_same]) (fun j hj hne => ?_) (by omega) h.now h.was
  unfold Md.val
  split <;> try rfl
  split <;> try rfl
  split <;> try rfl
  split <;> try rfl
  split <;> try rfl
  show Value.bool (ups M.tou i v (j - 121)) = _
  rw [ups_other _ _ (by omega)]
theorem MdAt.setNow {w : World} {x : Nat} {M : Md} (h : MdAt w x M) {i : Nat} (hi : i < 30) (r : Rw) (hr : Nums .u8 w r.a r.l.length r.cap r.l) : MdAt (w.setCell ⟨x, i, none⟩ r.v) x { M with now := ups M.now i r } := by
  refine h.set1 i _ (by rw [Md.val_now _ hi]; show (ups M.now i r i).v = _; rw [ups_same]) (fun j hj hne => ?_) (by omega) (fun k hk => ?_) h.was
  · unfold Md.val
    split
    · show (ups M.now i r j).v = _
      rw [ups_other _ _ hne]
    · rfl
  · show Nums .u8 w (ups M.now i r k).a _ _ _
    by_cases e : k = i
    · subst e; rw [show ({ M with now := ups M.now k r } : Md).now k = r from ups_same _ _ _, ups_same]; exact hr
    · rw [show ({ M with now := ups M.now i r } : Md).now k = M.now k from ups_other _ _ e, ups_other _ _ e]; exact h.now k hk
theorem MdAt.setEp {w : World} {x : Nat} {M : Md} (h : MdAt w x M) (e : Nat) : MdAt (w.setCell ⟨x, 120, none⟩ (.int .i64 e)) x { M with ep := e } := by
  refine h.set1 120 _ (Md.val_ep _) (fun j hj hne => ?_) (by omega) h.now h.was
  unfold Md.val
  split <;> try rfl
  split <;> try rfl
  split <;> try rfl
  split <;> try rfl
  rw [if_neg (by omega), if_neg (by omega)]
/-- thirty cells are others -/
theorem MdAt.set30 {w : World} {x : Nat} {M M' : Md} (h : MdAt w x M) (o : Nat) (vs : List Value) (hl : vs.length = 30) (hv : ∀ (i : Nat) (hi : i < 30), M'.val (o + i) = vs[i]) (hM : ∀ j, j < 151 → (j < o ∨ o + 30 ≤ j) → M'.val j = M.val j) (ho : o + 30 ≤ 151)
    (h1 : ∀ i, i < 30 → Nums .u8 w (M'.now i).a (M'.now i).l.length (M'.now i).cap (M'.now i).l) (h2 : ∀ i, i < 30 → Nums .u8 w (M'.was i).a (M'.was i).l.length (M'.was i).cap (M'.was i).l) : MdAt (w.setCells x o vs) x M' := by
  refine h.over (setCells_blk vs o w h.blk) (turn_setCells x vs o w) (fun j hj => ?_) h1 h2
  have hc : ∀ q, q < vs.length → (w.cell? ⟨x, o + q, none⟩).isSome = true := fun q hq => by rw [h.at_ _ (by omega)]; rfl
  by_cases hin : o ≤ j ∧ j < o + 30
  · obtain ⟨i, rfl⟩ : ∃ i, j = o + i := ⟨j - o, by omega⟩
    have hi : i < vs.length := by omega
    rw [World.cell?_setCells_in x vs o w hc i hi, hv i (by omega)]
  · have e : (w.setCells x o vs).cell? ⟨x, j, none⟩ = w.cell? ⟨x, j, none⟩ := World.cell?_setCells_out x vs o w ⟨x, j, none⟩ (fun _ _ => by simp only; omega)
    rw [e, hM j hj (by omega)]
    exact h.at_ j hj
end Go.Proofs.YtbjfgdahfpfgdaaGreatDoor.PgW

namespace Go.Proofs.YtbjfgdahfpfgdaaGreatDoor.PgW
open Go.Proofs.YtbjfgdahfpfgdaaGreatDoor.MapsW Go.Proofs.YtbjfgdahfpfgdaaGreatDoor.PgP
set_option linter.unusedVariables false
set_option maxRecDepth 100000

structure Rel (M : Md) (V N : Int → Option (List Nat)) (ep : Nat) : Prop where
  cur : ∀ i : Nat, i < 30 → view N V (i : Int) = if M.on i then some (M.now i).l else none
  com : ∀ i : Nat, i < 30 → V (i : Int) = if M.had i then some (M.was i).l else none
  tou : ∀ i : Nat, i < 30 → (N (i : Int)).isSome = M.tou i
  out : ∀ i : Int, i < 0 ∨ 30 ≤ i → V i = none ∧ N i = none
  ep : M.ep = ep
theorem view_other {N N' V : Int → Option (List Nat)} {i : Int} (h : N' i = N i) : view N' V i = view N V i := by unfold view; rw [h]
theorem Rel.write {M : Md} {V N : Int → Option (List Nat)} {ep : Nat} (h : Rel M V N ep) {n : Nat} (hn : n < 30) (r : Rw) (hr : r.l ≠ []) :
    Rel { M with tou := ups M.tou n true, on := ups M.on n true, now := ups M.now n r } V (upd N (n : Int) (some r.l)) ep := by
  refine ⟨fun i hi => ?_, h.com, fun i hi => ?_, fun i hi => ⟨(h.out i hi).1, ?_⟩, h.ep⟩
  · rw [view_upd _ _ _ hr]
    show _ = if ups M.on n true i then some (ups M.now n r i).l else none
    by_cases e : i = n
    · subst e; rw [if_pos rfl, ups_same, ups_same]; rfl
    · rw [if_neg (by omega), ups_other _ _ e, ups_other _ _ e]; exact h.cur i hi
  · show (upd N (n : Int) (some r.l) (i : Int)).isSome = ups M.tou n true i
    by_cases e : i = n
    · subst e; rw [upd_same, ups_same]; rfl
    · rw [upd_other _ _ (by omega), ups_other _ _ e]; exact h.tou i hi
  · rw [upd_other _ _ (by omega)]; exact (h.out i hi).2
theorem Rel.drop {M : Md} {V N : Int → Option (List Nat)} {ep : Nat} (h : Rel M V N ep) {n : Nat} (hn : n < 30) (r : Rw) :
    Rel { M with tou := ups M.tou n (M.tou n || M.on n), on := ups M.on n false, now := ups M.now n r } V (if (view N V (n : Int)).isSome then upd N (n : Int) (some []) else N) ep := by
  have hon : (view N V (n : Int)).isSome = M.on n := by rw [h.cur n hn]; cases M.on n <;> rfl
  rw [hon]
  refine ⟨fun i hi => ?_, h.com, fun i hi => ?_, fun i hi => ⟨(h.out i hi).1, ?_⟩, h.ep⟩
  · show _ = if ups M.on n false i then some (ups M.now n r i).l else none
    by_cases e : i = n
    · subst e
      rw [ups_same]
      cases ho : M.on i with
      | true =>
        simp only [if_true]
        unfold view
        rw [upd_same]
        rfl
      | false =>
        simp only [Bool.false_eq_true, if_false]
        rw [h.cur i hn, ho]
        rfl
    · rw [ups_other _ _ e, ups_other _ _ e, ← h.cur i hi]
      refine view_other ?_
      split
      · exact upd_other _ _ (by omega)
      · rfl
  · show _ = ups M.tou n (M.tou n || M.on n) i
    by_cases e : i = n
    · subst e
      rw [ups_same]
      cases ho : M.on i with
      | true => rw [if_pos rfl, upd_same, Bool.or_true]; rfl
      | false => rw [if_neg (by decide), Bool.or_false]; exact h.tou i hn
    · rw [ups_other _ _ e, ← h.tou i hi]
      split
      · rw [upd_other _ _ (by omega)]
      · rfl
  · split
    · rw [upd_other _ _ (by omega)]; exact (h.out i hi).2
    · exact (h.out i hi).2
theorem Rel.commit {M : Md} {V N : Int → Option (List Nat)} {ep : Nat} (h : Rel M V N ep) (e : Nat) : Rel { M with was := M.now, had := M.on, tou := fun _ => false, ep := e } (view N V) Non e := by
  refine ⟨h.cur, h.cur, fun i hi => rfl, fun i hi => ⟨?_, rfl⟩, rfl⟩
  unfold view
  rw [(h.out i hi).2, (h.out i hi).1]
theorem Rel.same {M : Md} {V N : Int → Option (List Nat)} {ep : Nat} (h : Rel M V N ep) {V' N' : Int → Option (List Nat)} (hV : V' = V) (hN : N' = N) : Rel M V' N' ep := by rw [hV, hN]; exact h
theorem countP_range {p : Nat → Bool} {a b : Nat} (hab : a ≤ b) (h : ∀ i, a ≤ i → i < b → p i = false) : (List.range b).countP p = (List.range a).countP p := by
  obtain ⟨d, rfl⟩ : ∃ d, b = a + d := ⟨b - a, by omega⟩
  rw [List.range_add, List.countP_append]
  have : ((List.range d).map (a + ·)).countP p = 0 := by
    rw [List.countP_eq_zero]
    intro x hx
    obtain ⟨y, hy, rfl⟩ := List.mem_map.1 hx
    rw [h _ (by omega) (by have := List.mem_range.1 hy; omega)]
    simp
  omega
theorem Rel.cnt {M : Md} {V N : Int → Option (List Nat)} {ep : Nat} (h : Rel M V N ep) : PgP.cnt N = (List.range 30).countP M.tou := by
  unfold PgP.cnt
  rw [countP_range (a := 30) (b := 256) (by decide) fun i h1 h2 => by rw [(h.out (i : Int) (.inr (by omega))).2]; rfl]
  refine List.countP_congr fun i hi => ?_
  rw [h.tou i (List.mem_range.1 hi)]
theorem Rel.cntV {M : Md} {V N : Int → Option (List Nat)} {ep : Nat} (h : Rel M V N ep) : PgP.cnt V ≤ 30 := cnt_le fun p hp => by
  rcases Nat.lt_or_ge p 30 with h1 | h1
  · exact h1
  · rw [(h.out (p : Int) (.inr (by omega))).1] at hp; cases hp
theorem Rel.cntW {M : Md} {V N : Int → Option (List Nat)} {ep : Nat} (h : Rel M V N ep) : PgP.cnt (view N V) ≤ 30 := (h.commit 0).cntV
theorem Rel.non {M : Md} {V N : Int → Option (List Nat)} {ep : Nat} (h : Rel M V N ep) (h0 : PgP.cnt N = 0) : N = Non := cnt_zero (fun i hi => by
  by_cases hc : i < 0 ∨ 30 ≤ i
  · rw [(h.out i hc).2] at hi; cases hi
  · omega) h0
/-- a model of nothing -/
abbrev Md0 : Md := ⟨fun _ => Rw.nil, fun _ => Rw.nil, fun _ => false, fun _ => false, 0, fun _ => false⟩
end Go.Proofs.YtbjfgdahfpfgdaaGreatDoor.PgW
namespace Go.Proofs.YtbjfgdahfpfgdaaGreatDoor.PgW
open Go Go.RowKit Go.Proofs.YtbjfgdahfpfgdaaGreatDoor.Mem Go.Proofs.YtbjfgdahfpfgdaaGreatDoor.MapsW Go.Proofs.YtbjfgdahfpfgdaaGreatDoor.DevG Go.Proofs.YtbjfgdahfpfgdaaGreatDoor.PgP
theorem zmodel : Tryz.zeroCells53 = ((List.range 151).map Md0.val).toArray := by kernel_rfl
theorem MdAt.made (w : World) : MdAt (w.alloc (.cells Tryz.zeroCells53 53)) w.heap.size Md0 := by
  refine ⟨⟨_, alloc_at rfl _, by rw [zmodel]; simp⟩, fun j hj => ?_, fun i hi => Nums.nil _ _, fun i hi => Nums.nil _ _⟩
  rw [World.cell?_alloc_mark, zmodel]
  simp [hj]
end Go.Proofs.YtbjfgdahfpfgdaaGreatDoor.PgW
namespace Go.Proofs.YtbjfgdahfpfgdaaGreatDoor.PgW
open Go.Proofs.YtbjfgdahfpfgdaaGreatDoor.MapsW Go.Proofs.YtbjfgdahfpfgdaaGreatDoor.PgP
theorem Rel.zero : Rel Md0 Non Non 0 := ⟨fun _ _ => rfl, fun _ _ => rfl, fun _ _ => rfl, fun _ _ => ⟨rfl, rfl⟩, rfl⟩
end Go.Proofs.YtbjfgdahfpfgdaaGreatDoor.PgW

namespace Go.Proofs.YtbjfgdahfpfgdaaGreatDoor.RefW
open Go Go.RowKit Go.Proofs.YtbjfgdahfpfgdaaGreatDoor.Mem
set_option linter.unusedVariables false
set_option maxRecDepth 100000

set_option maxHeartbeats 1600000 in
/-- two lists of ints held against one another -/
theorem sameints_w (a : Option Addr) (n cap : Nat) (l : List Nat) (b : Option Addr) (m cap' : Nat) (l' : List Nat) (w : World) (h0 : Nums .i64 w a n cap l) (h1 : Nums .i64 w b m cap' l') :
    Calls Tryz.prog 61 #[.slice a n cap, .slice b m cap'] w fun e w' => e = .returned (.bool (decide (l = l'))) ∧ Below w.heap.size w w' := by
  have hbd0 := h0.bound
  have hbd1 := h1.bound
  have HL0 := hid h0.len
  have HL1 := hid h1.len
  obtain ⟨c1, c2⟩ := hbd0
  obtain ⟨c3, c4⟩ := hbd1
  by_cases hn : n = m
  · subst hn
    go_enter Tryz.func61, Tryz.ntmps61
    go_wp2
    go_loopw [5] (fun i wr => ∃ k : Nat, k ≤ n ∧ i = .int .i64 k ∧ l.take k = l'.take k ∧ Below w.heap.size w wr) (fun i _ => n - (RowKit.intOf i).toNat)
    case atStart => exact ⟨0, by omega, rfl, by simp, Below.refl _ _⟩
    case round =>
      obtain ⟨k, hk, rfl, hT, hb⟩ := hrel
      have HT := hid hT
      clear hT
      by_cases hlt : k < n
      · have hkl : k < l.length := by rw [HL0.out]; exact hlt
        have hkl' : k < l'.length := by rw [HL1.out]; exact hlt
        obtain ⟨b0, o0, rfl, hc0⟩ := (h0.below hb).at hkl
        obtain ⟨b1, o1, rfl, hc1⟩ := (h1.below hb).at hkl'
        have HS0 := hid (List.take_succ_eq_append_getElem hkl)
        have HS1 := hid (List.take_succ_eq_append_getElem hkl')
        have HE0 := hid (List.getElem?_eq_getElem hkl)
        have HE1 := hid (List.getElem?_eq_getElem hkl')
        generalize l[k] = x at hc0 HS0 HE0
        generalize l'[k] = y at hc1 HS1 HE1
        clear h0 h1
        by_cases hxy : x = y
        · subst hxy
          go_wp2
          go_quiet (fail)
          go_wp2
          go_roundw
          case rel => exact ⟨k + 1, by omega, by go_num, by rw [HS0.out, HS1.out, HT.out], below_drewN hb _⟩
          case measure => simp [RowKit.intOf]; omega
        · have hne : ((x : Int) == (y : Int)) = false := by simp; omega
          go_wp2
          go_quiet (fail)
          go_wp2
          go_ret
          refine ⟨ret_bool ?_, below_drewN hb _⟩
          simp only [decide_eq_false_iff_not, Bool.false_eq, decide_eq_false_iff_not]
          intro he
          have h2 := HE0.out
          rw [he, HE1.out] at h2
          exact hxy (Option.some.inj h2).symm
      · obtain rfl : k = n := by omega
        have he : l = l' := same_of_take HL0.out.symm HL1.out.symm HT.out
        go_wp2
        go_ret
        exact ⟨ret_bool (by simp [he]), hb⟩
  · have hne : ((n : Int) != (m : Int)) = true := by rw [bne_iff_ne]; omega
    go_enter Tryz.func61, Tryz.ntmps61
    go_wp2
    go_ret
    exact ⟨ret_bool (by simp; intro h; exact hn (by rw [← HL0.out, ← HL1.out, h])), Below.refl _ _⟩

end Go.Proofs.YtbjfgdahfpfgdaaGreatDoor.RefW
