/- The calls of a law whose power goes: Commit over an armed device, Open behind a crash; A slice of structs whose fields are one cell each, opened at every index and field; The law's model of a store, in memory; The law's model and a store: what they have in common; A page read where its first copy is right; The walk of breviaryref.SameInts; The walk of the law's same; The law's model beside a store: what they are together; what the law tells both that is refused; What a store is told, in memory; which of it is light. -/
import Derived.Test.YtbjfgdahfpfgdaaGreatDoorPageFallsP12
import Derived.Test.YtbjfgdahfpfgdaaGreatDoorPgBaseP1
import Derived.Deep.Slices
import Derived.ChangeSame
import Derived.Test.YtbjfgdahfpfgdaaGreatDoorPgBaseP11
import Derived.Test.YtbjfgdahfpfgdaaGreatDoorPgBaseP8
import Derived.Test.YtbjfgdahfpfgdaaGreatDoorPgBaseP7
import Derived.Deep.RegionHeld3
import Derived.Test.YtbjfgdahfpfgdaaGreatDoorPgBaseP5
import Derived.Test.YtbjfgdahfpfgdaaGreatDoorPgBaseP4
import Derived.ChangeSlices
namespace Go.Proofs.YtbjfgdahfpfgdaaGreatDoor.PgW
open Go Go.RowKit Go.Maps Go.Proofs.YtbjfgdahfpfgdaaGreatDoor.Mem Go.Proofs.YtbjfgdahfpfgdaaGreatDoor.MapsW Go.Proofs.YtbjfgdahfpfgdaaGreatDoor.SeeW Go.Proofs.YtbjfgdahfpfgdaaGreatDoor.DevG Go.Proofs.YtbjfgdahfpfgdaaGreatDoor.PairG Go.Proofs.YtbjfgdahfpfgdaaGreatDoor.RefsW Go.Proofs.YtbjfgdahfpfgdaaGreatDoor.PgP Go.Proofs.YtbjfgdahfpfgdaaGreatDoor.RootP Go.Proofs.YtbjfgdahfpfgdaaGreatDoor.RootW Go.Proofs.YtbjfgdahfpfgdaaGreatDoor.Ints
set_option linter.unusedVariables false
set_option maxRecDepth 100000

theorem UpF.far {Y : List Nat} {bs : List Addr} {w w' : World} {lo b n n' c c' : Nat} {s d : Nat} {V V' N N' : Int → Option (List Nat)} {ep ep' k f : Nat} {m m' : Mp} {D D' : Dv} {I I' : Si} {S S' : St} (h : UpF Y bs w lo b n c s d V N ep k m D I S) {X : List Nat}
    (q : SAt w' lo n' m' { D' with fuse := f } I' S') (hS : Stand I.H S' V' D') (hs : I'.s = I.s) (hd : I'.d = I.d) (hH : I'.H = I.H) (hb : D'.blocks = D.blocks) (hc : D'.calls = c') (hic : I'.c ≤ 7) (ht : Turn X w w') (hX : ∀ x ∈ X, lo ≤ x) (hN : S'.now = N') (he : S'.ep = ep') (hI : ∀ x ∈ I'.all m', x ∈ I.all m ∨ w.heap.size ≤ x) :
    UpF Y bs w' lo b n' c' s d V' N' ep' f m' D' I' S' :=
  ⟨q, by rw [hH]; exact hS, hs.trans h.hs, hd.trans h.hd, hH.trans h.hH, hb.trans h.bl, h.b1, h.b2, hc, hic, h.ev.turn ht hX, Nat.le_trans h.los ht.size, hN, he, fun y hy => ⟨Nat.lt_of_lt_of_le (h.out y hy).1 ht.size, fun hm => by
    rcases hI y hm with hm | hm
    · exact (h.out y hy).2 hm
    · have := (h.out y hy).1; omega⟩⟩
theorem half_two {b : Nat} (h : 300 ≤ b) : 2 ≤ GeoW.half b ∧ GeoW.half b ≤ 512 := by
  have h2 := GeoW.half_512 b
  unfold GeoW.half at h2 ⊢
  omega
/-- nothing to commit -/
theorem Armed.commit0 {Y : List Nat} {bs : List Addr} {w : World} {lo b n c : Nat} {s d : Nat} {V N : Int → Option (List Nat)} {ep k : Nat} (h : Armed Y bs w lo b n c s d V N ep k) (hk : k ≤ 1000000) (hn : n + 8 * (cnt N + 7) + 700 < 690000) (hc : c < 700000) (hep : ep < 1000000) (h0 : cnt N = 0) :
    Calls Tryz.prog 16 #[ptr s] w fun e w' => e = .returned .nilIface ∧ Armed Y bs w' lo b (n + 8 * (cnt N + 7) + 700) c s d V N ep k ∧ Below lo w w' ∧ Kp Y w w' := by
  obtain ⟨m, D, I, S, h⟩ := h
  obtain ⟨hH2, hH5⟩ := half_two h.b1
  rw [← h.hH] at hH2 hH5
  have hnp : ({ D with fuse := k } : Dv).np = 0 := h.st.idle.np
  have hnp2 : D.np = 0 := h.st.idle.np
  have hcl : ({ D with fuse := k } : Dv).calls = c := h.cl
  have hbl : ({ D with fuse := k } : Dv).blocks = b := h.bl
  have hco := commit_w bs lo n m { D with fuse := k } I S w h.at_ h.ev (Fit.sok h.st.fit h.st.now (by omega)) hH2 (by rw [h.now, hnp]; omega) (by omega) (by omega) hk (by rw [h.ep]; omega) (by rw [hbl]; exact h.b1)
  have e1 : commitT S { D with fuse := k } I.H = (none, S, { D with fuse := k }) := by unfold commitT; rw [if_pos (by rw [h.now]; exact h0)]
  rw [e1, h.now, h.hs] at hco
  refine hco.mono ?_
  rintro e w' ⟨v, m', I', hv, rfl, q, hM, ht⟩
  have hv' : v = .nilIface := hv
  subst hv'
  have hX : ∀ x ∈ I.s :: own I.d m, lo ≤ x := fun x hx => by
    rcases List.mem_cons.1 hx with rfl | hx
    · exact h.at_.slo.1
    · exact h.at_.pr.dev.own_lo x hx
  have hXo : ∀ x ∈ I.s :: own I.d m, x ∈ I.own m := fun x hx => by
    rcases List.mem_cons.1 hx with rfl | hx
    · simp
    · exact UpF.own_sub hx
  exact ⟨rfl, ⟨m', D, I', S, h.far (q.mono (by show n + 8 * (cnt N + 7) + 3 * D.np + 700 ≤ _; omega)) h.st hM.s hM.d hM.H rfl h.cl (by rw [hM.c]; exact h.ic) ht hX h.now h.ep hM.all⟩, ht.below h.los hX, ⟨fun y hy => ht.block y (h.out y hy).1 fun hm => (h.out y hy).2 (Si.own_all (hXo y hm)), fun a n cap l hl => DevG.nums_turn hl ht fun x hx => h.at_.nou8 x (hXo x hx)⟩⟩
/-- a commit whose power may go -/
theorem Armed.commit {Y : List Nat} {bs : List Addr} {w : World} {lo b n c : Nat} {s d : Nat} {V N : Int → Option (List Nat)} {ep k : Nat} (h : Armed Y bs w lo b n c s d V N ep k) (hk : k ≤ 1000000) (hn : n + 8 * (cnt N + 7) + 700 < 690000) (hc : c < 700000) (hep : ep < 1000000) (h0 : cnt N ≠ 0) (h40 : cnt N ≤ 40) {q : Nat} (h1 : cnt V ≤ q) (h2 : cnt (view N V) ≤ q) (hq : 2 * q + 18 ≤ GeoW.half b) :
    Calls Tryz.prog 16 #[ptr s] w fun e w' => ((e = .returned .nilIface ∧ ∃ c' f, c' ≤ c + 2 * (cnt N + 7) + 4 ∧ f ≤ k ∧ Armed Y bs w' lo b (n + 8 * (cnt N + 7) + 700) c' s d (view N V) (fun _ => none) (ep + 1) f) ∨
      ((∃ a, bs[5]? = some a ∧ e = .returned (ev a)) ∧ Gone Y bs w' lo b (n + 8 * (cnt N + 7) + 700) (c + 2 * (cnt N + 7) + 4) d true (fun F => Was b V ep F ∨ Was b (view N V) (ep + 1) F))) ∧ Below lo w w' ∧ Kp Y w w' := by
  obtain ⟨m, D, I, S, h⟩ := h
  obtain ⟨hH2, hH5⟩ := half_two h.b1
  rw [← h.hH] at hH2 hH5
  have hnp : ({ D with fuse := k } : Dv).np = 0 := h.st.idle.np
  have hnp2 : D.np = 0 := h.st.idle.np
  have hcl : ({ D with fuse := k } : Dv).calls = c := h.cl
  have hbl : ({ D with fuse := k } : Dv).blocks = b := h.bl
  have hcl2 := h.cl
  have hco := commit_w bs lo n m { D with fuse := k } I S w h.at_ h.ev (Fit.sok h.st.fit h.st.now (by omega)) hH2 (by rw [h.now, hnp]; omega) (by omega) (by omega) hk (by rw [h.ep]; omega) (by rw [hbl]; exact h.b1)
  obtain ⟨x, hx, hf⟩ := h.st.fit.room h.st.now h1 (by rw [h.now]; exact h2) (by rw [h.hH]; exact hq)
  have hX : ∀ x ∈ I.s :: own I.d m, lo ≤ x := fun x hx => by
    rcases List.mem_cons.1 hx with rfl | hx
    · exact h.at_.slo.1
    · exact h.at_.pr.dev.own_lo x hx
  have hXo : ∀ x ∈ I.s :: own I.d m, x ∈ I.own m := fun x hx => by
    rcases List.mem_cons.1 hx with rfl | hx
    · simp
    · exact UpF.own_sub hx
  have hkp : ∀ {w' : World}, Turn (I.s :: own I.d m) w w' → Kp Y w w' := fun ht => ⟨fun y hy => ht.block y (h.out y hy).1 fun hm => (h.out y hy).2 (Si.own_all (hXo y hm)), fun a n cap l hl => DevG.nums_turn hl ht fun x hx => h.at_.nou8 x (hXo x hx)⟩
  rcases h.st.falls (by rw [h.bl]; exact h.hH) hH2 (by rw [h.ep]; omega) (by rw [h.now]; exact h0) hx hf k with ⟨D', f, e1, g1, e2, e3, e4⟩ | ⟨E, e1, g1, g2, g3, g4, g5, g6⟩
  · rw [e1, h.now, h.hs] at hco
    rw [h.now] at e2 e4
    refine hco.mono ?_
    rintro e w' ⟨v, m', I', hv, rfl, q, hM, ht⟩
    have hv' : v = .nilIface := hv
    subst hv'
    exact ⟨.inl ⟨rfl, D'.calls, f, by omega, g1, m', D', I', behind S x, h.far (q.mono (by show n + 8 * (cnt N + 7) + 3 * D.np + 700 ≤ _; omega)) e2 hM.s hM.d hM.H e3 rfl (by rw [hM.c]; exact h.ic) ht hX rfl (by show S.ep + 1 = _; rw [h.ep]) hM.all⟩, ht.below h.los hX, hkp ht⟩
  · rw [e1, h.now, h.hs] at hco
    rw [h.now] at g4 g5 g6
    refine hco.mono ?_
    rintro e w' ⟨v, m', I', hv, rfl, q, hM, ht⟩
    obtain ⟨a, ha, rfl⟩ := hv
    have hdev := q.pr.dev
    rw [hM.d, h.hd] at hdev
    refine ⟨.inr ⟨⟨a, ha, rfl⟩, m', E, hdev.mono (by show n + 8 * (cnt N + 7) + 3 * D.np + 700 ≤ _; omega) (Nat.le_refl _), g3.trans h.bl, h.b1, h.b2, by omega, by omega, fun _ => g2, fun ks zs hK => ?_, h.ev.turn ht hX, Nat.le_trans h.los ht.size, fun y hy => ⟨Nat.lt_of_lt_of_le (h.out y hy).1 ht.size, fun hm => ?_⟩⟩, ht.below h.los hX, hkp ht⟩
    · rcases g6 ks zs hK with g | g
      · exact .inl ⟨{ S with now := fun _ => none }, by rw [← h.hH]; exact g, h.ep⟩
      · exact .inr ⟨_, by rw [← h.hH]; exact g, by show S.ep + 1 = _; rw [h.ep]⟩
    · have hm' : y ∈ I'.own m' := UpF.own_sub (by rw [hM.d, h.hd]; exact hm)
      rcases hM.own y hm' with hm' | hm'
      · exact (h.out y hy).2 (Si.own_all hm')
      · have := (h.out y hy).1; omega
theorem st_of {H : Nat} {S : St} {V : Int → Option (List Nat)} {D : Dv} (h : Semi H S V D) (h0 : 0 < S.ep) : stOf S.ep S.tabs S.at_ = S := by
  have h1 := h.now
  have h2 := h.fit.rs h0
  obtain ⟨ep, rs, tabs, at_, now⟩ := S
  simp only at h1 h2
  subst h1 h2
  rfl
theorem Semi.zero {H : Nat} {S : St} {V : Int → Option (List Nat)} {D : Dv} (h : Semi H S V D) (h0 : S.ep = 0) : Stand H St0 V D ∧ S = St0 := by
  have hs := h.stand fun e => absurd e (by omega)
  have hz := hs.zero h0
  have e : S = St0 := by
    rw [← hz]
    have h1 := h.now
    obtain ⟨ep, rs, tabs, at_, now⟩ := S
    simp only at h1
    subst h1
    rfl
  exact ⟨by rw [← e]; exact hs, e⟩
/-- opened while the power may go: what is opened is not kept -/
theorem Ajar.open1 {Y : List Nat} {bs : List Addr} {w : World} {lo b n c d : Nat} {V : Int → Option (List Nat)} {ep k : Nat} (h : Ajar Y bs w lo b n c d V ep k) (hk : k ≤ 1000000) (hn : n < 680000) (hc : c < 600000) (hep : ep < 1000000) :
    Calls Tryz.prog 18 #[ptr d] w fun e w' => (∃ u v, e = .returned (.tuple #[u, v])) ∧ Gone Y bs w' lo b (n + 400) (c + 3) d false (Was b V ep) ∧ Below lo w w' ∧ Kp Y w w' := by
  obtain ⟨m, D, S, h⟩ := h
  obtain ⟨hH2, hH5⟩ := half_two h.b1
  have hX := h.at_.own_lo
  have hnp : ({ D with fuse := k } : Dv).np = 0 := h.sm.idle.np
  have hnp2 : D.np = 0 := h.sm.idle.np
  have hcl : ({ D with fuse := k } : Dv).calls ≤ c := h.cl
  have hbl : ({ D with fuse := k } : Dv).blocks = b := h.bl
  have hb1 := h.b1
  have hb2 := h.b2
  have hcl2 := h.cl
  rcases Nat.eq_zero_or_pos S.ep with h0 | h0
  · have hbe : bestOf { D with fuse := k } (GeoW.half b) = ⟨0, []⟩ := h.sm.none h0
    refine (open_none bs lo d n m { D with fuse := k } w h.at_ (h.ev.sub (by decide)) (by rw [hbl]; omega) (by rw [hbl]; omega) h.los h.sm.idle.down h.sm.idle.bytes (by rw [hbl]; exact hbe)).mono ?_
    rintro e w' ⟨I', rfl, q, hd, hH, _, hic, hio, ⟨htb, hra⟩, hb⟩
    have hdev := q.pr.dev
    rw [hd] at hdev
    exact ⟨⟨_, _, rfl⟩, ⟨m, { D with fuse := k }, hdev.mono (by omega) (Nat.le_refl _), hbl, h.b1, h.b2, by omega, by omega, fun e => (by cases e), fun ks zs hK => ⟨S, by rw [crash_idle h.sm.idle k hK]; exact h.sm, h.ep⟩, h.ev.below hb, Nat.le_trans h.los hb.size, fun y hy => ⟨Nat.lt_of_lt_of_le (h.out y hy).1 hb.size, (h.out y hy).2⟩⟩, hb.mono h.los, at_kp h.at_ h.out (Turn.of_below hb)⟩
  · have hfine : Fine ⟨(S.ep : Int), S.tabs⟩ := Fit.fine h.sm.fit (by omega) h0 (by have := h.ep; omega)
    have hok := Fit.ok h.sm.fit (by omega)
    have hrt := h.sm.fit.rs h0
    have hbe : bestOf { D with fuse := k } (GeoW.half b) = ⟨(S.ep : Int), S.rs⟩ := h.sm.best h0
    rw [hrt] at hbe
    have ho := open_some bs lo d n m { D with fuse := k } w h.at_ h.ev (by rw [hbl]; omega) (by rw [hbl]; omega) h.los (H := GeoW.half b) (by rw [hbl]) (h.sm.tabs k) hbe h.sm.fit.t7 hfine.g hfine.s (fun p => ?_) (fun i r hi => ?_) hok.2.2 (by omega) (by omega) (by omega) hk
    · rw [st_of h.sm h0] at ho
      refine ho.mono ?_
      rintro e w' ⟨p', hp', ht, hres⟩
      have hout : ∀ y ∈ Y, y < w'.heap.size ∧ y ∉ own d { m with p := p' } := fun y hy => ⟨Nat.lt_of_lt_of_le (h.out y hy).1 ht.size, fun hm => by
        rcases own_p hm with hm | hm
        · exact (h.out y hy).2 hm
        · rcases hp' with e | e
          · refine (h.out y hy).2 ?_
            rw [hm, e]
            simp [Mp.list]
          · have := (h.out y hy).1; omega⟩
      rcases h.sm.whole h0 (by rw [h.bl]) hH2 (by rw [hrt]; exact hfine) k with ⟨F, f, e1, g1, g2, g3, g4, g5⟩ | ⟨E, e1, g1, g2, g3, g4, g5, g6⟩
      · rw [e1] at hres
        obtain ⟨I', rfl, hd, hH, _, _, hic, q, hio, htb, hra⟩ := hres
        have hdev := q.pr.dev
        rw [hd] at hdev
        have hs : Semi (GeoW.half b) S V F := by
          have := g3.semi
          rw [show ({ S with now := fun _ => Option.none } : St) = S by have h1 := h.sm.now; obtain ⟨ep, rs, tabs, at_, now⟩ := S; simp only at h1; subst h1; rfl] at this
          exact this
        have hFn : ({ F with fuse := f } : Dv).np = 0 := g3.idle.np
        have hFc : ({ F with fuse := f } : Dv).calls ≤ D.calls + 3 := g5
        exact ⟨⟨_, _, rfl⟩, ⟨{ m with p := p' }, { F with fuse := f }, hdev.mono (by show n + 400 + 3 * D.np ≤ _; omega) (Nat.le_refl _), g4.trans h.bl, h.b1, h.b2, by omega, by omega, fun e => (by cases e), fun ks zs hK => ⟨S, by rw [crash_idle g3.idle f hK]; exact hs, h.ep⟩, h.ev.turn ht hX, Nat.le_trans h.los ht.size, hout⟩, ht.below h.los hX, at_kp h.at_ h.out ht⟩
      · rw [e1] at hres
        obtain ⟨a, ha, rfl, q⟩ := hres
        exact ⟨⟨_, _, rfl⟩, ⟨{ m with p := p' }, E, q.mono (by show n + 400 + 3 * D.np ≤ _; omega) (Nat.le_refl _), g3.trans h.bl, h.b1, h.b2, by omega, by omega, fun e => (by cases e), fun ks zs hK => ⟨S, g6 ks zs hK, h.ep⟩, h.ev.turn ht hX, Nat.le_trans h.los ht.size, hout⟩, ht.below h.los hX, at_kp h.at_ h.out ht⟩
    · unfold tref
      cases hA : S.at_ (p : Int) with
      | none => exact ⟨by decide, by decide, by decide⟩
      | some r => exact hok.1 _ r hA
    · obtain ⟨a, l, _, rfl, h2, _⟩ := h.sm.fit.old_pg hi
      simp only
      omega
/-- opened in peace -/
theorem Ajar.open2 {Y : List Nat} {bs : List Addr} {w : World} {lo b n c d : Nat} {V : Int → Option (List Nat)} {ep : Nat} (h : Ajar Y bs w lo b n c d V ep 0) (hn : n < 680000) (hc : c < 600000) (hep : ep < 1000000) :
    Calls Tryz.prog 18 #[ptr d] w fun e w' => (∃ s' c', e = .returned (.tuple #[ptr s', .nilIface]) ∧ c' ≤ c + 3 ∧ Store Y bs w' lo b (n + 400) c' s' d V (fun _ => none) ep) ∧ Below lo w w' ∧ Kp Y w w' := by
  obtain ⟨m, D, S, h⟩ := h
  obtain ⟨hH2, hH5⟩ := half_two h.b1
  have hat := h.at_
  have hz := fuse_idle h.sm.idle
  rw [hz] at hat
  have hX := hat.own_lo
  have hnp := h.sm.idle.np
  have hbl := h.bl
  have hb1 := h.b1
  have hb2 := h.b2
  have hcl := h.cl
  have hin : ∀ {I : Si}, I.tb = I.tb → True := fun _ => trivial
  rcases Nat.eq_zero_or_pos S.ep with h0 | h0
  · obtain ⟨hst, hS0⟩ := h.sm.zero h0
    refine (open_none bs lo d n m D w hat (h.ev.sub (by decide)) (by omega) (by omega) h.los h.sm.idle.down h.sm.idle.bytes (by rw [hbl]; exact h.sm.none h0)).mono ?_
    rintro e w' ⟨I', rfl, q, hd, hH, _, hic, hio, ⟨htb, hra⟩, hb⟩
    refine ⟨⟨I'.s, D.calls, rfl, by omega, m, D, I', St0, q.mono (by omega), ?_, rfl, hd, by rw [hH, hbl], hbl, h.b1, h.b2, rfl, by omega, h.ev.below hb, Nat.le_trans h.los hb.size, rfl, by rw [← h.ep, hS0], fun y hy => ⟨Nat.lt_of_lt_of_le (h.out y hy).1 hb.size, fun hm => ?_⟩⟩, hb.mono h.los, at_kp h.at_ h.out (Turn.of_below hb)⟩
    · rw [hH, hbl]; exact hst
    · have hy2 := h.out y hy
      rcases List.mem_cons.1 hm with hm | hm
      · omega
      · rcases List.mem_append.1 hm with hm | hm
        · rw [hra] at hm; cases hm
        · rcases hio y hm with hm | hm
          · exact hy2.2 hm
          · omega
  · have hfine : Fine ⟨(S.ep : Int), S.tabs⟩ := Fit.fine h.sm.fit (by omega) h0 (by have := h.ep; omega)
    have hok := Fit.ok h.sm.fit (by omega)
    have hrt := h.sm.fit.rs h0
    have hbe := h.sm.best h0
    rw [hrt] at hbe
    have htb := h.sm.tabs 0
    rw [hz] at htb
    have ho := open_some bs lo d n m D w hat h.ev (by omega) (by omega) h.los (H := GeoW.half b) (by rw [hbl]) htb hbe h.sm.fit.t7 hfine.g hfine.s (fun p => ?_) (fun i r hi => ?_) hok.2.2 (by omega) (by omega) (by omega) (by rw [h.sm.idle.fuse]; omega)
    · rw [st_of h.sm h0] at ho
      refine ho.mono ?_
      rintro e w' ⟨p', hp', ht, hres⟩
      have hw := h.sm.whole h0 (by rw [h.bl]) hH2 (by rw [hrt]; exact hfine) 0
      rw [hz] at hw
      rcases hw with ⟨F, f, e1, g1, g2, g3, g4, g5⟩ | ⟨E, e1, g1, _⟩
      · rw [e1, g2 rfl] at hres
        rw [fuse_idle g3.idle] at hres
        obtain ⟨I', rfl, hd, hH, _, _, hic, q, hio, htb, hra⟩ := hres
        refine ⟨⟨I'.s, F.calls, rfl, by omega, { m with p := p' }, F, I', S, q.mono (by show n + 400 + 3 * D.np ≤ _; omega), ?_, rfl, hd, by rw [hH], g4.trans hbl, h.b1, h.b2, rfl, hic, h.ev.turn ht hX, Nat.le_trans h.los ht.size, h.sm.now, h.ep, fun y hy => ⟨Nat.lt_of_lt_of_le (h.out y hy).1 ht.size, fun hm => ?_⟩⟩, ht.below h.los hX, at_kp hat h.out ht⟩
        · rw [hH]; exact g3
        · have hy2 := h.out y hy
          rcases List.mem_cons.1 hm with hm | hm
          · omega
          · rcases List.mem_append.1 hm with hm | hm
            · obtain ⟨o, e⟩ := mem_raB hm
              have := hra y o e
              omega
            · rcases hio y hm with hm | hm
              · exact hy2.2 hm
              · omega
      · omega
    · unfold tref
      cases hA : S.at_ (p : Int) with
      | none => exact ⟨by decide, by decide, by decide⟩
      | some r => exact hok.1 _ r hA
    · obtain ⟨a, l, _, rfl, h2, _⟩ := h.sm.fit.old_pg hi
      simp only
      omega
end Go.Proofs.YtbjfgdahfpfgdaaGreatDoor.PgW

namespace Go.Proofs.YtbjfgdahfpfgdaaGreatDoor.Mem
open Go Go.RowKit Go.ChangeShapes Go.WideShapes Go.Deep
set_option linter.unusedVariables false

section
variable {H : Type} {enc : TypeId × Value → H} {P : Program} {w : World} {base : Nat} {spare : Nat → Bool} {held : Bool}
/-- v is a slice of len structs of the fields fs: each field's cell reads by the field's type -/
def Structs (enc : TypeId × Value → H) (P : Program) (w : World) (base : Nat) (spare : Nat → Bool) (held : Bool) (fs : Array Field) (o : Option Addr) (len cap : Nat) : Prop :=
  (o = none ∧ len = 0 ∧ cap = 0) ∨ ∃ a : Addr, o = some a ∧ base ≤ a.block ∧ len ≤ cap ∧ cap ≤ maxLen ∧
    ∀ i, i < len → ∀ (j : Nat) (f : Field), fs[j]? = some f → ∃ (x : Value) (n : Nat) (y : DataW H × List MemPlace), w.cell? (a.add (i * fs.size + j)) = some x ∧ DataW.trod enc P w base spare held n f.type [x] = some y
theorem open_structs {t e : TypeId} {fs : Array Field} {fuel : Nat} {cs : List Value} {x : DataW H × List MemPlace} (ht : P.underlying t = some (.slice e)) (he : P.underlying e = some (.struct fs))
    (ce : P.cellsOf e = fs.size) (hoff : ∀ (j : Nat) (f : Field), fs[j]? = some f → f.offset = j ∧ P.cellsOf f.type = 1) (h : DataW.trod enc P w base spare held fuel t cs = some x) :
    ∃ (o : Option Addr) (len cap : Nat), cs = [.slice o len cap] ∧ Structs enc P w base spare held fs o len cap := by
  rcases open_slice ht h with ⟨rfl, rfl⟩ | ⟨a, len, cap, m, n, D, Pl, rfl, hb, hl, hm, hmm, rfl, hx⟩
  · exact ⟨none, 0, 0, rfl, .inl ⟨rfl, rfl, rfl⟩⟩
  · refine ⟨some a, len, cap, rfl, .inr ⟨a, rfl, hb, hl, hm, fun i hi j f hf => ?_⟩⟩
    have hlm : len ≤ m := by rw [hmm]; split <;> omega
    obtain ⟨cs', h1, h2⟩ := hx i (by omega)
    rw [ce] at h1
    obtain ⟨_, hlen, hcell⟩ := World.cells?_some h1
    obtain ⟨xs, k, hk, hxy, _, hxl, hfld⟩ := DataW.trod_struct he h2
    have hjs : j < fs.size := (Array.getElem?_eq_some_iff.1 hf).1
    obtain ⟨o0, c0⟩ := hoff j f hf
    have e0 := hcell j (by omega)
    rw [add_add] at e0
    have g0 := hfld j f hf
    rw [o0, c0] at g0
    have hjl : j < cs'.length := by omega
    rw [List.getElem?_eq_getElem hjl] at e0
    rw [List.drop_eq_getElem_cons hjl, List.take_succ_cons, List.take_zero, List.getElem?_eq_getElem (by omega)] at g0
    exact ⟨_, _, _, e0, g0⟩
end
end Go.Proofs.YtbjfgdahfpfgdaaGreatDoor.Mem

namespace Go.Proofs.YtbjfgdahfpfgdaaGreatDoor.PgW
open Go Go.RowKit Go.Maps Go.Proofs.YtbjfgdahfpfgdaaGreatDoor.Mem Go.Proofs.YtbjfgdahfpfgdaaGreatDoor.MapsW Go.Proofs.YtbjfgdahfpfgdaaGreatDoor.SeeW Go.Proofs.YtbjfgdahfpfgdaaGreatDoor.DevG Go.Proofs.YtbjfgdahfpfgdaaGreatDoor.PgP
set_option linter.unusedVariables false
set_option maxRecDepth 100000

/-- a row of bytes as a value -/
structure Rw where
  a : Option Addr
  cap : Nat
  l : List Nat
abbrev Rw.v (r : Rw) : Value := .slice r.a r.l.length r.cap
abbrev Rw.nil : Rw := ⟨none, 0, []⟩
/-- what a model has -/
structure Md where
  now : Nat → Rw
  was : Nat → Rw
  on : Nat → Bool
  had : Nat → Bool
  ep : Nat
  tou : Nat → Bool
/-- its cells -/
def Md.val (M : Md) (j : Nat) : Value :=
  if j < 30 then (M.now j).v else if j < 60 then (M.was (j - 30)).v else if j < 90 then .bool (M.on (j - 60)) else if j < 120 then .bool (M.had (j - 90)) else if j < 121 then .int .i64 M.ep else .bool (M.tou (j - 121))
theorem Md.val_now (M : Md) {i : Nat} (h : i < 30) : M.val i = (M.now i).v := by unfold Md.val; rw [if_pos h]
theorem Md.val_was (M : Md) {i : Nat} (h : i < 30) : M.val (30 + i) = (M.was i).v := by unfold Md.val; rw [if_neg (by omega), if_pos (by omega), Nat.add_sub_cancel_left]
theorem Md.val_on (M : Md) {i : Nat} (h : i < 30) : M.val (60 + i) = .bool (M.on i) := by unfold Md.val; rw [if_neg (by omega), if_neg (by omega), if_pos (by omega), Nat.add_sub_cancel_left]
theorem Md.val_had (M : Md) {i : Nat} (h : i < 30) : M.val (90 + i) = .bool (M.had i) := by unfold Md.val; rw [if_neg (by omega), if_neg (by omega), if_neg (by omega), if_pos (by omega), Nat.add_sub_cancel_left]
theorem Md.val_ep (M : Md) : M.val 120 = .int .i64 M.ep := by unfold Md.val; rw [if_neg (by omega), if_neg (by omega), if_neg (by omega), if_neg (by omega), if_pos (by omega)]
theorem Md.val_tou (M : Md) {i : Nat} (h : i < 30) : M.val (121 + i) = .bool (M.tou i) := by unfold Md.val; rw [if_neg (by omega), if_neg (by omega), if_neg (by omega), if_neg (by omega), if_neg (by omega), Nat.add_sub_cancel_left]
theorem Md.val_u8 (M : Md) (j : Nat) (z : Int) : M.val j ≠ .int .u8 z := by
  unfold Md.val
  split
  · simp
  split
  · simp
  split
  · simp
  split
  · simp
  split
  · simp
  · simp
/-- a model lies at block x -/
structure MdAt (w : World) (x : Nat) (M : Md) : Prop where
  blk : ∃ cs : Array Value, w.heap[x]? = some (.cells cs 53) ∧ cs.size = 151
  at_ : ∀ j, j < 151 → w.cell? ⟨x, j, none⟩ = some (M.val j)
  now : ∀ i, i < 30 → Nums .u8 w (M.now i).a (M.now i).l.length (M.now i).cap (M.now i).l
  was : ∀ i, i < 30 → Nums .u8 w (M.was i).a (M.was i).l.length (M.was i).cap (M.was i).l
theorem MdAt.lt {w : World} {x : Nat} {M : Md} (h : MdAt w x M) : x < w.heap.size := let ⟨_, e, _⟩ := h.blk; (Array.getElem?_eq_some_iff.1 e).1
theorem MdAt.frozen {w : World} {x : Nat} {M : Md} (h : MdAt w x M) (j : Nat) : w.frozen? ⟨x, j, none⟩ = false := by
  obtain ⟨cs, e, _⟩ := h.blk
  simp [World.frozen?, e]
theorem MdAt.u8 {w : World} {x : Nat} {M : Md} (h : MdAt w x M) : ∀ y ∈ [x], ∀ off z, w.cell? ⟨y, off, none⟩ ≠ some (.int .u8 z) := by
  intro y hy off z
  rw [List.mem_singleton.1 hy]
  rcases Nat.lt_or_ge off 151 with ho | ho
  · rw [h.at_ off ho]
    exact fun e => M.val_u8 off z (Option.some.inj e)
  · obtain ⟨cs, e, hs⟩ := h.blk
    simp [World.cell?, e, Array.getElem?_eq_none (show cs.size ≤ off by omega)]
theorem MdAt.c0 {w : World} {x : Nat} {M : Md} (h : MdAt w x M) : ∃ v, w.cell? ⟨x, 0, none⟩ = some v ∧ ∀ z, v ≠ .int .u8 z := ⟨_, h.at_ 0 (by decide), fun z => M.val_u8 0 z⟩
theorem MdAt.keep {w w' : World} {x : Nat} {M : Md} (h : MdAt w x M) (e : w'.heap[x]? = w.heap[x]?) (hr : ∀ (a : Option Addr) (n cap : Nat) (l : List Nat), Nums .u8 w a n cap l → Nums .u8 w' a n cap l) : MdAt w' x M :=
  ⟨by rw [e]; exact h.blk, fun j hj => by rw [World.cell?_of_block (w := w) e]; exact h.at_ j hj, fun i hi => hr _ _ _ _ (h.now i hi), fun i hi => hr _ _ _ _ (h.was i hi)⟩
theorem MdAt.below {w w' : World} {x : Nat} {M : Md} (h : MdAt w x M) (hb : Below w.heap.size w w') : MdAt w' x M := h.keep (hb.block x h.lt) fun a n cap l hl => Nums.below hl hb
theorem MdAt.kp {Y : List Nat} {w w' : World} {x : Nat} {M : Md} (h : MdAt w x M) (k : Kp Y w w') (hx : x ∈ Y) : MdAt w' x M := h.keep (k.blk x hx) k.row
/-- some cells are others -/
theorem MdAt.over {w w' : World} {x : Nat} {M M' : Md} (h : MdAt w x M) (hb : ∃ cs : Array Value, w'.heap[x]? = some (.cells cs 53) ∧ cs.size = 151) (ht : Turn [x] w w') (hc : ∀ j, j < 151 → w'.cell? ⟨x, j, none⟩ = some (M'.val j))
    (h1 : ∀ i, i < 30 → Nums .u8 w (M'.now i).a (M'.now i).l.length (M'.now i).cap (M'.now i).l) (h2 : ∀ i, i < 30 → Nums .u8 w (M'.was i).a (M'.was i).l.length (M'.was i).cap (M'.was i).l) : MdAt w' x M' :=
  ⟨hb, hc, fun i hi => DevG.nums_turn (h1 i hi) ht h.u8, fun i hi => DevG.nums_turn (h2 i hi) ht h.u8⟩
theorem setCell_blk {w : World} {x : Nat} {t : TypeId} {k : Nat} (h : ∃ cs : Array Value, w.heap[x]? = some (.cells cs t) ∧ cs.size = k) (o : Nat) (v : Value) : ∃ cs : Array Value, (w.setCell ⟨x, o, none⟩ v).heap[x]? = some (.cells cs t) ∧ cs.size = k := by
  obtain ⟨cs, h1, h2⟩ := h
  exact ⟨_, heap_setCell_same w x o cs _ _ h1, by simp [h2]⟩
theorem setCells_blk {x : Nat} {t : TypeId} {k : Nat} : ∀ (vs : List Value) (o : Nat) (w : World), (∃ cs : Array Value, w.heap[x]? = some (.cells cs t) ∧ cs.size = k) → ∃ cs : Array Value, (w.setCells x o vs).heap[x]? = some (.cells cs t) ∧ cs.size = k
  | [], _, w, h => h
  | v :: r, o, w, h => setCells_blk r (o + 1) _ (setCell_blk h o v)
/-- one cell is another -/
theorem MdAt.set1 {w : World} {x : Nat} {M M' : Md} (h : MdAt w x M) (o : Nat) (v : Value) (hv : M'.val o = v) (hM : ∀ j, j < 151 → j ≠ o → M'.val j = M.val j) (ho : o < 151)
    (h1 : ∀ i, i < 30 → Nums .u8 w (M'.now i).a (M'.now i).l.length (M'.now i).cap (M'.now i).l) (h2 : ∀ i, i < 30 → Nums .u8 w (M'.was i).a (M'.was i).l.length (M'.was i).cap (M'.was i).l) : MdAt (w.setCell ⟨x, o, none⟩ v) x M' := by
  refine h.over (setCell_blk h.blk o v) (Turn.setCell w x o v (by simp)) (fun j hj => ?_) h1 h2
  by_cases e : j = o
  · subst e
    rw [World.cell?_setCell_same w _ _ (h.at_ j hj), hv]
  · rw [World.cell?_setCell_other w (a := ⟨x, o, none⟩) (b := ⟨x, j, none⟩) (v := _) (fun h => e (congrArg Addr.off h).symm), hM j hj e]
    exact h.at_ j hj
/-- f with another value at i -/
def ups {α : Type} (f : Nat → α) (i : Nat) (v : α) : Nat → α := fun j => if j = i then v else f j
theorem ups_same {α : Type} (f : Nat → α) (i : Nat) (v : α) : ups f i v i = v := if_pos rfl
theorem ups_other {α : Type} (f : Nat → α) {i j : Nat} (v : α) (h : j ≠ i) : ups f i v j = f j := if_neg h
theorem MdAt.setOn {w : World} {x : Nat} {M : Md} (h : MdAt w x M) {i : Nat} (hi : i < 30) (v : Bool) : MdAt (w.setCell ⟨x, 60 + i, none⟩ (.bool v)) x { M with on := ups M.on i v } := by
  refine h.set1 (60 + i) _ (by rw [Md.val_on _ hi]; show Value.bool (ups M.on i v i) = _; rw [ups_same]) (fun j hj hne => ?_) (by omega) h.now h.was
  unfold Md.val
  split <;> try rfl
  split <;> try rfl
  split
  · show Value.bool (ups M.on i v (j - 60)) = _
    rw [ups_other _ _ (by omega)]
  · rfl
theorem MdAt.setTou {w : World} {x : Nat} {M : Md} (h : MdAt w x M) {i : Nat} (hi : i < 30) (v : Bool) : MdAt (w.setCell ⟨x, 121 + i, none⟩ (.bool v)) x { M with tou := ups M.tou i v } := by
  refine h.set1 (121 + i) _ (by rw [Md.val_tou _ hi]; show Value.bool (ups M.tou i v i) = _; rw [ups_same]) (fun j hj hne => ?_) (by omega) h.now h.was
  unfold Md.val
  split <;> try rfl
  split <;> try rfl
  split <;> try rfl
  split <;> try rfl
  split <;> try rfl
  show Value.bool (ups M.tou i v (j - 121)) = _
  rw [ups_other _ _ (by omega)]
theorem MdAt.setNow {w : World} {x : Nat} {M : Md} (h : MdAt w x M) {i : Nat} (hi : i < 30) (r : Rw) (hr : Nums .u8 w r.a r.l.length r.cap r.l) : MdAt (w.setCell ⟨x, i, none⟩ r.v) x { M with now := ups M.now i r } := by
  refine h.set1 i _ (by rw [Md.val_now _ hi]; show (ups M.now i r i).v = _; rw [ups_same]) (fun j hj hne => ?_) (by omega) (fun k hk => ?_) h.was
  · unfold Md.val
    split
    · show (ups M.now i r j).v = _
      rw [ups_other _ _ hne]
    · rfl
  · show Nums .u8 w (ups M.now i r k).a _ _ _
    by_cases e : k = i
    · subst e; rw [show ({ M with now := ups M.now k r } : Md).now k = r from ups_same _ _ _, ups_same]; exact hr
    · rw [show ({ M with now := ups M.now i r } : Md).now k = M.now k from ups_other _ _ e, ups_other _ _ e]; exact h.now k hk
theorem MdAt.setEp {w : World} {x : Nat} {M : Md} (h : MdAt w x M) (e : Nat) : MdAt (w.setCell ⟨x, 120, none⟩ (.int .i64 e)) x { M with ep := e } := by
  refine h.set1 120 _ (Md.val_ep _) (fun j hj hne => ?_) (by omega) h.now h.was
  unfold Md.val
  split <;> try rfl
  split <;> try rfl
  split <;> try rfl
  split <;> try rfl
  rw [if_neg (by omega), if_neg (by omega)]
/-- thirty cells are others -/
theorem MdAt.set30 {w : World} {x : Nat} {M M' : Md} (h : MdAt w x M) (o : Nat) (vs : List Value) (hl : vs.length = 30) (hv : ∀ (i : Nat) (hi : i < 30), M'.val (o + i) = vs[i]) (hM : ∀ j, j < 151 → (j < o ∨ o + 30 ≤ j) → M'.val j = M.val j) (ho : o + 30 ≤ 151)
    (h1 : ∀ i, i < 30 → Nums .u8 w (M'.now i).a (M'.now i).l.length (M'.now i).cap (M'.now i).l) (h2 : ∀ i, i < 30 → Nums .u8 w (M'.was i).a (M'.was i).l.length (M'.was i).cap (M'.was i).l) : MdAt (w.setCells x o vs) x M' := by
  refine h.over (setCells_blk vs o w h.blk) (turn_setCells x vs o w) (fun j hj => ?_) h1 h2
  have hc : ∀ q, q < vs.length → (w.cell? ⟨x, o + q, none⟩).isSome = true := fun q hq => by rw [h.at_ _ (by omega)]; rfl
  by_cases hin : o ≤ j ∧ j < o + 30
  · obtain ⟨i, rfl⟩ : ∃ i, j = o + i := ⟨j - o, by omega⟩
    have hi : i < vs.length := by omega
    rw [World.cell?_setCells_in x vs o w hc i hi, hv i (by omega)]
  · have e : (w.setCells x o vs).cell? ⟨x, j, none⟩ = w.cell? ⟨x, j, none⟩ := World.cell?_setCells_out x vs o w ⟨x, j, none⟩ (fun _ _ => by simp only; omega)
    rw [e, hM j hj (by omega)]
    exact h.at_ j hj
end Go.Proofs.YtbjfgdahfpfgdaaGreatDoor.PgW

namespace Go.Proofs.YtbjfgdahfpfgdaaGreatDoor.PgW
open Go.Proofs.YtbjfgdahfpfgdaaGreatDoor.MapsW Go.Proofs.YtbjfgdahfpfgdaaGreatDoor.PgP
set_option linter.unusedVariables false
set_option maxRecDepth 100000

structure Rel (M : Md) (V N : Int → Option (List Nat)) (ep : Nat) : Prop where
  cur : ∀ i : Nat, i < 30 → view N V (i : Int) = if M.on i then some (M.now i).l else none
  com : ∀ i : Nat, i < 30 → V (i : Int) = if M.had i then some (M.was i).l else none
  tou : ∀ i : Nat, i < 30 → (N (i : Int)).isSome = M.tou i
  out : ∀ i : Int, i < 0 ∨ 30 ≤ i → V i = none ∧ N i = none
  ep : M.ep = ep
theorem view_other {N N' V : Int → Option (List Nat)} {i : Int} (h : N' i = N i) : view N' V i = view N V i := by unfold view; rw [h]
theorem Rel.write {M : Md} {V N : Int → Option (List Nat)} {ep : Nat} (h : Rel M V N ep) {n : Nat} (hn : n < 30) (r : Rw) (hr : r.l ≠ []) :
    Rel { M with tou := ups M.tou n true, on := ups M.on n true, now := ups M.now n r } V (upd N (n : Int) (some r.l)) ep := by
  refine ⟨fun i hi => ?_, h.com, fun i hi => ?_, fun i hi => ⟨(h.out i hi).1, ?_⟩, h.ep⟩
  · rw [view_upd _ _ _ hr]
    show _ = if ups M.on n true i then some (ups M.now n r i).l else none
    by_cases e : i = n
    · subst e; rw [if_pos rfl, ups_same, ups_same]; rfl
    · rw [if_neg (by omega), ups_other _ _ e, ups_other _ _ e]; exact h.cur i hi
  · show (upd N (n : Int) (some r.l) (i : Int)).isSome = ups M.tou n true i
    by_cases e : i = n
    · subst e; rw [upd_same, ups_same]; rfl
    · rw [upd_other _ _ (by omega), ups_other _ _ e]; exact h.tou i hi
  · rw [upd_other _ _ (by omega)]; exact (h.out i hi).2
theorem Rel.drop {M : Md} {V N : Int → Option (List Nat)} {ep : Nat} (h : Rel M V N ep) {n : Nat} (hn : n < 30) (r : Rw) :
    Rel { M with tou := ups M.tou n (M.tou n || M.on n), on := ups M.on n false, now := ups M.now n r } V (if (view N V (n : Int)).isSome then upd N (n : Int) (some []) else N) ep := by
  have hon : (view N V (n : Int)).isSome = M.on n := by rw [h.cur n hn]; cases M.on n <;> rfl
  rw [hon]
  refine ⟨fun i hi => ?_, h.com, fun i hi => ?_, fun i hi => ⟨(h.out i hi).1, ?_⟩, h.ep⟩
  · show _ = if ups M.on n false i then some (ups M.now n r i).l else none
    by_cases e : i = n
    · subst e
      rw [ups_same]
      cases ho : M.on i with
      | true =>
        simp only [if_true]
        unfold view
        rw [upd_same]
        rfl
      | false =>
        simp only [Bool.false_eq_true, if_false]
        rw [h.cur i hn, ho]
        rfl
    · rw [ups_other _ _ e, ups_other _ _ e, ← h.cur i hi]
      refine view_other ?_
      split
      · exact upd_other _ _ (by omega)
      · rfl
  · show _ = ups M.tou n (M.tou n || M.on n) i
    by_cases e : i = n
    · subst e
      rw [ups_same]
      cases ho : M.on i with
      | true => rw [if_pos rfl, upd_same, Bool.or_true]; rfl
      | false => rw [if_neg (by decide), Bool.or_false]; exact h.tou i hn
    · rw [ups_other _ _ e, ← h.tou i hi]
      split
      · rw [upd_other _ _ (by omega)]
      · rfl
  · split
    · rw [upd_other _ _ (by omega)]; exact (h.out i hi).2
    · exact (h.out i hi).2
theorem Rel.commit {M : Md} {V N : Int → Option (List Nat)} {ep : Nat} (h : Rel M V N ep) (e : Nat) : Rel { M with was := M.now, had := M.on, tou := fun _ => false, ep := e } (view N V) Non e := by
  refine ⟨h.cur, h.cur, fun i hi => rfl, fun i hi => ⟨?_, rfl⟩, rfl⟩
  unfold view
  rw [(h.out i hi).2, (h.out i hi).1]
theorem Rel.abort {M : Md} {V N : Int → Option (List Nat)} {ep : Nat} (h : Rel M V N ep) : Rel { M with now := M.was, on := M.had, tou := fun _ => false } V Non ep :=
  ⟨h.com, h.com, fun i hi => rfl, fun i hi => ⟨(h.out i hi).1, rfl⟩, h.ep⟩
theorem Rel.same {M : Md} {V N : Int → Option (List Nat)} {ep : Nat} (h : Rel M V N ep) {V' N' : Int → Option (List Nat)} (hV : V' = V) (hN : N' = N) : Rel M V' N' ep := by rw [hV, hN]; exact h
theorem countP_range {p : Nat → Bool} {a b : Nat} (hab : a ≤ b) (h : ∀ i, a ≤ i → i < b → p i = false) : (List.range b).countP p = (List.range a).countP p := by
  obtain ⟨d, rfl⟩ : ∃ d, b = a + d := ⟨b - a, by omega⟩
  rw [List.range_add, List.countP_append]
  have : ((List.range d).map (a + ·)).countP p = 0 := by
    rw [List.countP_eq_zero]
    intro x hx
    obtain ⟨y, hy, rfl⟩ := List.mem_map.1 hx
    rw [h _ (by omega) (by have := List.mem_range.1 hy; omega)]
    simp
  omega
theorem Rel.cnt {M : Md} {V N : Int → Option (List Nat)} {ep : Nat} (h : Rel M V N ep) : PgP.cnt N = (List.range 30).countP M.tou := by
  unfold PgP.cnt
  rw [countP_range (a := 30) (b := 256) (by decide) fun i h1 h2 => by rw [(h.out (i : Int) (.inr (by omega))).2]; rfl]
  refine List.countP_congr fun i hi => ?_
  rw [h.tou i (List.mem_range.1 hi)]
theorem Rel.cntV {M : Md} {V N : Int → Option (List Nat)} {ep : Nat} (h : Rel M V N ep) : PgP.cnt V ≤ 30 := cnt_le fun p hp => by
  rcases Nat.lt_or_ge p 30 with h1 | h1
  · exact h1
  · rw [(h.out (p : Int) (.inr (by omega))).1] at hp; cases hp
theorem Rel.cntW {M : Md} {V N : Int → Option (List Nat)} {ep : Nat} (h : Rel M V N ep) : PgP.cnt (view N V) ≤ 30 := (h.commit 0).cntV
theorem Rel.non {M : Md} {V N : Int → Option (List Nat)} {ep : Nat} (h : Rel M V N ep) (h0 : PgP.cnt N = 0) : N = Non := cnt_zero (fun i hi => by
  by_cases hc : i < 0 ∨ 30 ≤ i
  · rw [(h.out i hc).2] at hi; cases hi
  · omega) h0
/-- a model of nothing -/
abbrev Md0 : Md := ⟨fun _ => Rw.nil, fun _ => Rw.nil, fun _ => false, fun _ => false, 0, fun _ => false⟩
end Go.Proofs.YtbjfgdahfpfgdaaGreatDoor.PgW
namespace Go.Proofs.YtbjfgdahfpfgdaaGreatDoor.PgW
open Go Go.RowKit Go.Proofs.YtbjfgdahfpfgdaaGreatDoor.Mem Go.Proofs.YtbjfgdahfpfgdaaGreatDoor.MapsW Go.Proofs.YtbjfgdahfpfgdaaGreatDoor.DevG Go.Proofs.YtbjfgdahfpfgdaaGreatDoor.PgP
theorem zmodel : Tryz.zeroCells53 = ((List.range 151).map Md0.val).toArray := by kernel_rfl
theorem MdAt.made (w : World) : MdAt (w.alloc (.cells Tryz.zeroCells53 53)) w.heap.size Md0 := by
  refine ⟨⟨_, alloc_at rfl _, by rw [zmodel]; simp⟩, fun j hj => ?_, fun i hi => Nums.nil _ _, fun i hi => Nums.nil _ _⟩
  rw [World.cell?_alloc_mark, zmodel]
  simp [hj]
end Go.Proofs.YtbjfgdahfpfgdaaGreatDoor.PgW
namespace Go.Proofs.YtbjfgdahfpfgdaaGreatDoor.PgW
open Go.Proofs.YtbjfgdahfpfgdaaGreatDoor.MapsW Go.Proofs.YtbjfgdahfpfgdaaGreatDoor.PgP
theorem Rel.zero : Rel Md0 Non Non 0 := ⟨fun _ _ => rfl, fun _ _ => rfl, fun _ _ => rfl, fun _ _ => ⟨rfl, rfl⟩, rfl⟩
end Go.Proofs.YtbjfgdahfpfgdaaGreatDoor.PgW

namespace Go.Proofs.YtbjfgdahfpfgdaaGreatDoor.PgW
open Go Go.RowKit Go.Maps Go.Proofs.YtbjfgdahfpfgdaaGreatDoor.Mem Go.Proofs.YtbjfgdahfpfgdaaGreatDoor.MapsW Go.Proofs.YtbjfgdahfpfgdaaGreatDoor.SeeW Go.Proofs.YtbjfgdahfpfgdaaGreatDoor.DevG Go.Proofs.YtbjfgdahfpfgdaaGreatDoor.PairG Go.Proofs.YtbjfgdahfpfgdaaGreatDoor.RefsW Go.Proofs.YtbjfgdahfpfgdaaGreatDoor.PgP
set_option linter.unusedVariables false
set_option maxRecDepth 100000

set_option maxHeartbeats 3200000 in
/-- a page as it was committed -/
theorem read_at0 (bs : List Addr) (lo n : Nat) (m : Mp) (D : Dv) (I : Si) (S : St) (p : Int) (l : List Nat) (a s : Nat) (w : World) (k : SAt w lo n m D I S) (hB : Ev w lo bs seven) (hp : isP p = true) (hN : S.now p = none) (hA : S.at_ p = some ((a : Int), s)) (ha : a < I.H) (ha0 : 0 < a) (hl1 : l.length ≤ 248)
    (hu : D.down = false) (hbt : ∀ j l, D.read j = some l → Crc.Bytes l) (hr1 : D.read (a : Int) = some (pblk l)) (hr2 : Crc.sum (pblk l) = s) :
    Calls Tryz.prog 19 #[ptr I.s, .int .i64 p] w fun e w' => (∃ a c, e = .returned (.tuple #[.slice a l.length c, .nilIface]) ∧ Nums .u8 w' a l.length c l) ∧ Below w.heap.size w w' := by
  obtain ⟨p0, p1, hf⟩ := isP_fits hp
  have hi := is_w p w
  have ht := there_w lo n m D I S p w k hf
  have hT : S.there p = true := by
    unfold St.there; rw [hN, hA]
    simpa using ha0
  rw [hp] at hi
  rw [hT] at ht
  obtain ⟨ko, ho⟩ := k.now
  have l5 := ho.ok_none hf hN
  have c6 := k.c.2.2.2.2.2.2.1
  have hX : ∀ w', Below w.heap.size w w' → w'.cell? ⟨I.s, 1, none⟩ = some (ptr I.p) ∧ w'.cell? ⟨I.s, 5, none⟩ = some (.map (some I.a)) ∧ (Instr.lookup 90 (.map (some I.a)) (.int .i64 p) false).run Tryz.prog w' = .ok (PairG.Rf (a : Int) s) w' := by
    intro w' hb
    have k' := k.below hb
    obtain ⟨ka, hka⟩ := k'.at_
    have := hka.look hf
    rw [hA] at this
    exact ⟨k'.c.2.1, k'.c.2.2.2.2.2.1, this⟩
  have hrd := fun (w' : World) (hb : Below w.heap.size w w') => pread_first bs lo I.d n m D I.p I.H I.c a s w' ((k.below hb).pr) hu ((hB.sub (by decide)).below hb) ha hbt hr1 hr2
  have hg0 := pblk_get (l := l) (by omega)
  have htk := pblk_take (l := l) (by omega)
  generalize pblk l = b at *
  obtain ⟨q, hq⟩ : ∃ q, q = l.length := ⟨_, rfl⟩
  rw [← hq] at hg0 htk hl1 ⊢
  have HQ := hid hq
  clear hq
  have HT := hid hT
  have HX := hid hX
  have HTK := hid htk
  obtain ⟨c1, c5, l4⟩ := hX w.drew (Below.refl _ _).drew
  clear hX hT hN hA hr1 hr2 ho k hB htk
  go_enter Tryz.func19, Tryz.ntmps19
  go_wp2_with fail
  refine hi.mono ?_
  rintro e w' ⟨rfl, hw⟩
  rw [hw]
  clear hw
  go_wp2_with fail
  refine ht.mono ?_
  rintro e w'' ⟨rfl, hw⟩
  rw [hw]
  clear hw
  go_wp2_with fail
  go_region_held3 (fun w' => w'.cell? ⟨I.s, 1, none⟩ = some (ptr I.p) ∧ w'.cell? ⟨I.s, 5, none⟩ = some (.map (some I.a)) ∧ (Instr.lookup 90 (.map (some I.a)) (.int .i64 p) false).run Tryz.prog w' = .ok (PairG.Rf (a : Int) s) w') (first | exact ⟨c1, c5, l4⟩ | exact ⟨z1, z5, zl⟩ | go_keep)
    ((go_at_call 56; refine (hrd _ (below_drewN (Below.refl _ _) _)).mono ?_; rintro e w3 ⟨⟨g, gc, rfl, hg, hgb⟩, t3⟩; have B3 := (below_drewN (Below.refl w.heap.size w) 1).trans (t3.mono (below_drewN (Below.refl w.heap.size w) 1).size); obtain ⟨z1, z5, zl⟩ := HX.out _ B3))
  have HG := hid hg
  have HB3 := hid B3
  have hcell : w3.cell? ⟨g, 0, none⟩ = some (.int .u8 (q : Int)) := Row.cell hg (j := 0) (by simp [nums, hg0])
  have d1 : decide ((248 : Int) < (q : Int)) = false := decide_eq_false (by omega)
  have hcap : 256 ≤ gc := hg.bound.1
  have hcap2 := hg.bound.2
  clear hg t3 B3 hrd hbt hgb z1 z5 zl c1 c5 l4
  go_wp2
  have hnd : Nums .u8 w3 (some ⟨g, 1, none⟩) q (gc - 1) l := by
    have h1 := (RootW.nums_drop HG.out 1 (by decide)).take (m := q) (by omega)
    rw [HTK.out, Nat.zero_add] at h1
    exact h1
  exact bodyPost_ret (v := .tuple #[.slice (some ⟨g, 1, none⟩) q (gc - 1), .nilIface]) (by simp [results, Tryz.results19, go_sem]) rfl ⟨⟨_, _, rfl, hnd⟩, HB3.out⟩
end Go.Proofs.YtbjfgdahfpfgdaaGreatDoor.PgW

namespace Go.Proofs.YtbjfgdahfpfgdaaGreatDoor.RefW
open Go Go.RowKit Go.Proofs.YtbjfgdahfpfgdaaGreatDoor.Mem
set_option linter.unusedVariables false
set_option maxRecDepth 100000

set_option maxHeartbeats 1600000 in
/-- two lists of ints held against one another -/
theorem sameints_w (a : Option Addr) (n cap : Nat) (l : List Nat) (b : Option Addr) (m cap' : Nat) (l' : List Nat) (w : World) (h0 : Nums .i64 w a n cap l) (h1 : Nums .i64 w b m cap' l') :
    Calls Tryz.prog 61 #[.slice a n cap, .slice b m cap'] w fun e w' => e = .returned (.bool (decide (l = l'))) ∧ Below w.heap.size w w' := by
  have hbd0 := h0.bound
  have hbd1 := h1.bound
  have HL0 := hid h0.len
  have HL1 := hid h1.len
  obtain ⟨c1, c2⟩ := hbd0
  obtain ⟨c3, c4⟩ := hbd1
  by_cases hn : n = m
  · subst hn
    go_enter Tryz.func61, Tryz.ntmps61
    go_wp2
    go_loopw [5] (fun i wr => ∃ k : Nat, k ≤ n ∧ i = .int .i64 k ∧ l.take k = l'.take k ∧ Below w.heap.size w wr) (fun i _ => n - (intOf i).toNat)
    case atStart => exact ⟨0, by omega, rfl, by simp, Below.refl _ _⟩
    case round =>
      obtain ⟨k, hk, rfl, hT, hb⟩ := hrel
      have HT := hid hT
      clear hT
      by_cases hlt : k < n
      · have hkl : k < l.length := by rw [HL0.out]; exact hlt
        have hkl' : k < l'.length := by rw [HL1.out]; exact hlt
        obtain ⟨b0, o0, rfl, hc0⟩ := (h0.below hb).at hkl
        obtain ⟨b1, o1, rfl, hc1⟩ := (h1.below hb).at hkl'
        have HS0 := hid (List.take_succ_eq_append_getElem hkl)
        have HS1 := hid (List.take_succ_eq_append_getElem hkl')
        have HE0 := hid (List.getElem?_eq_getElem hkl)
        have HE1 := hid (List.getElem?_eq_getElem hkl')
        generalize l[k] = x at hc0 HS0 HE0
        generalize l'[k] = y at hc1 HS1 HE1
        clear h0 h1
        by_cases hxy : x = y
        · subst hxy
          go_wp2
          go_quiet (fail)
          go_wp2
          go_roundw
          case rel => exact ⟨k + 1, by omega, by go_num, by rw [HS0.out, HS1.out, HT.out], below_drewN hb _⟩
          case measure => simp [intOf]; omega
        · have hne : ((x : Int) == (y : Int)) = false := by simp; omega
          go_wp2
          go_quiet (fail)
          go_wp2
          go_ret
          refine ⟨ret_bool ?_, below_drewN hb _⟩
          simp only [decide_eq_false_iff_not, Bool.false_eq, decide_eq_false_iff_not]
          intro he
          have h2 := HE0.out
          rw [he, HE1.out] at h2
          exact hxy (Option.some.inj h2).symm
      · obtain rfl : k = n := by omega
        have he : l = l' := same_of_take HL0.out.symm HL1.out.symm HT.out
        go_wp2
        go_ret
        exact ⟨ret_bool (by simp [he]), hb⟩
  · have hne : ((n : Int) != (m : Int)) = true := by rw [bne_iff_ne]; omega
    go_enter Tryz.func61, Tryz.ntmps61
    go_wp2
    go_ret
    exact ⟨ret_bool (by simp; intro h; exact hn (by rw [← HL0.out, ← HL1.out, h])), Below.refl _ _⟩

end Go.Proofs.YtbjfgdahfpfgdaaGreatDoor.RefW

namespace Go.Proofs.YtbjfgdahfpfgdaaGreatDoor.PgW
open Go Go.RowKit Go.Maps Go.Proofs.YtbjfgdahfpfgdaaGreatDoor.Mem Go.Proofs.YtbjfgdahfpfgdaaGreatDoor.MapsW Go.Proofs.YtbjfgdahfpfgdaaGreatDoor.SeeW Go.Proofs.YtbjfgdahfpfgdaaGreatDoor.DevG Go.Proofs.YtbjfgdahfpfgdaaGreatDoor.PairG Go.Proofs.YtbjfgdahfpfgdaaGreatDoor.RefsW Go.Proofs.YtbjfgdahfpfgdaaGreatDoor.PgP Go.Proofs.YtbjfgdahfpfgdaaGreatDoor.RootP Go.Proofs.YtbjfgdahfpfgdaaGreatDoor.RootW Go.Proofs.YtbjfgdahfpfgdaaGreatDoor.ConcatW
set_option linter.unusedVariables false
set_option maxRecDepth 100000

theorem Rel.there {M : Md} {V N : Int → Option (List Nat)} {ep : Nat} (h : Rel M V N ep) : there N V = (List.range 30).filter M.on := by
  have e : ∀ d, (List.range (30 + d)).filter (fun (p : Nat) => (view N V (p : Int)).isSome) = (List.range 30).filter M.on := fun d => by
    induction d with
    | zero =>
      refine List.filter_congr fun i hi => ?_
      rw [h.cur i (List.mem_range.1 hi)]
      cases M.on i <;> rfl
    | succ d ih =>
      rw [show 30 + (d + 1) = (30 + d) + 1 from rfl, List.range_succ, List.filter_append, ih]
      have : (view N V ((30 + d : Nat) : Int)).isSome = false := by
        have ho := h.out ((30 + d : Nat) : Int) (.inr (by omega))
        unfold view
        rw [ho.2, ho.1]
        rfl
      rw [List.filter_cons, this]
      simp
  exact e 226
/-- a page is read: what there is -/
def ReadTo0 (bs : List Addr) (o : Option (List Nat)) (w : World) (e : Ending) (w' : World) : Prop := (match o with
  | none => ∃ a, bs[8]? = some a ∧ e = .returned (.tuple #[.slice none 0 0, ev a])
  | some l => ∃ a cap, e = .returned (.tuple #[.slice a l.length cap, .nilIface]) ∧ Nums .u8 w' a l.length cap l) ∧ Below w.heap.size w w'
theorem Store.read0 {Y : List Nat} {bs : List Addr} {w : World} {lo b n c : Nat} {s d : Nat} {V N : Int → Option (List Nat)} {ep : Nat} (h : Store Y bs w lo b n c s d V N ep) {p : Int} (hp : isP p = true) :
    Calls Tryz.prog 19 #[ptr s, .int .i64 p] w (ReadTo0 bs (view N V p) w) := by
  obtain ⟨m, D, I, S, h⟩ := h
  obtain ⟨p0, p1, hf⟩ := isP_fits hp
  have hth := h.st.there p
  unfold ReadTo0
  cases hv : view N V p with
  | none =>
    rw [h.now, hv] at hth
    have hr := read_bad bs lo n m D I S p w h.at_ h.ev hf 8 (.inr ⟨hp, hth, rfl⟩)
    rw [h.hs] at hr
    exact hr
  | some l =>
    cases hN : N p with
    | some k =>
      have hkl : k = l ∧ k ≠ [] := by
        unfold view at hv
        rw [hN] at hv
        cases k with
        | nil => cases hv
        | cons y k => exact ⟨Option.some.inj hv, by simp⟩
      obtain ⟨rfl, hk0⟩ := hkl
      have hN' : S.now p = some k := by rw [h.now]; exact hN
      have hr := read_now lo n m D I S p k w h.at_ hp hN' hk0 (h.st.now.len p k hN').1
      rw [h.hs] at hr
      exact hr
    | none =>
      have hV : V p = some l := by
        unfold view at hv
        rw [hN] at hv
        exact hv
      obtain ⟨a, e1, e2, e3, e4⟩ := h.st.fit.pg p l hV
      have hr := read_at0 bs lo n m D I S p l a _ w h.at_ h.ev hp (by rw [h.now]; exact hN) e1 e3 (by omega) (h.st.fit.len p l hV).2.1 h.st.idle.down h.st.idle.bytes e4.1 rfl
      rw [h.hs] at hr
      exact hr
set_option maxHeartbeats 6400000 in
theorem same_w (Y : List Nat) (bs : List Addr) (lo b n c s d ep x : Nat) (V N : Int → Option (List Nat)) (M : Md) (w0 w : World) (hS : Store Y bs w lo b n c s d V N ep) (hM : MdAt w x M) (hR : Rel M V N ep) (hB : Bs w bs) :
    Calls Tryz.prog 24 #[ptr s, ptr x] w fun e w' => e = .returned (.bool true) ∧ Below w.heap.size w w' := by
  have hrd := fun (i : Nat) (hi : i < 30) (w' : World) (hb : Below w.heap.size w w') => (hS.below hb).read0 (p := (i : Int)) (isP_of (by omega))
  have HRD := hid hrd
  have HM := hid hM
  have HR := hid hR
  have HB := hid hB
  have HS := hid hS
  clear hrd hM hR hB hS
  go_enter Tryz.func24, Tryz.ntmps24
  go_wp2_with fail
  go_loopw [5, 6] (fun v iv wr => ∃ i : Nat, i ≤ 30 ∧ iv = .int .i64 i ∧ wr.ownsRow w.heap.size 3 1 v ((List.range i).filter M.on).length (nums .i64 ((List.range i).filter M.on)) ∧ Below w.heap.size w wr) (fun _ iv _ => 30 - (RowKit.intOf iv).toNat)
  case atStart => exact ⟨0, by omega, rfl, World.ownsRow_nil _ _ _ _, Below.refl _ _⟩
  case round =>
    obtain ⟨i, hi, rfl, own, hb⟩ := hrel
    have HBW := hid hb
    by_cases hlt : i < 30
    · have hr := HRD.out i hlt wr hb
      rw [HR.out.cur i hlt] at hr
      have hv1 : wr.cell? ⟨x, 60 + i, none⟩ = some (.bool (M.on i)) := by rw [(HM.out.below hb).at_ _ (by omega), M.val_on hlt]
      have hv2 : wr.cell? ⟨x, i, none⟩ = some (M.now i).v := by rw [(HM.out.below hb).at_ _ (by omega), M.val_now hlt]
      have hlI : (i : Int) < 30 := by omega
      have hrow := HM.out.now i hlt
      have hsu : ∀ (o : Bool), M.on i = o → (List.range (i + 1)).filter M.on = (List.range i).filter M.on ++ (if o then [i] else []) := fun o ho => by
        rw [List.range_succ, List.filter_append]
        cases o <;> simp [ho]
      obtain ⟨va, vc, rfl, hvr⟩ := ownsRow_slice own
      have hle : ((List.range i).filter M.on).length ≤ i := by
        have := List.length_filter_le M.on (List.range i)
        simpa using this
      have HROW := hid (show Nums .u8 w (M.now i).a (M.now i).l.length (M.now i).cap (M.now i).l from hrow)
      generalize M.now i = r at hr hv2 hrow HROW
      obtain ⟨na, nc, nl⟩ := r
      simp only at hr hv2 hrow
      have hbd := hrow.bound
      have hz := hb.size
      cases ho : M.on i with
      | true =>
        have hsu1 := hsu true ho
        rw [ho] at hr hv1
        have HSU := hid hsu1
        rw [if_pos rfl] at hr
        unfold ReadTo0 at hr
        simp only at hr
        clear ho hsu hsu1 hrow hvr
        go_wp2_with fail
        refine hr.mono ?_
        rintro e w1 ⟨⟨ra, rc, rfl, hn⟩, b1⟩
        have B1 := hb.trans (b1.mono hz)
        have hsm : ∀ w', Below w1.heap.size w1 w' → _ := fun w' hb' => RefW.same_w ra nl.length rc nl na nl.length nc nl w' (hn.below hb') (((HROW.out.below hb).below b1).below hb')
        simp only [decide_true] at hsm
        have y1 := kept b1 hv1
        have y2 := kept b1 hv2
        have HO1 := hid (ownsRow_below own b1)
        have HB1 := hid B1
        clear hr hn hb b1 B1 hv1 hv2 own
        go_upto_region 6 with fail
        refine wp_region_held_drew (S := fun w' => w'.cell? ⟨x, 60 + i, none⟩ = some (.bool true) ∧ w'.cell? ⟨x, i, none⟩ = some (.slice na nl.length nc)) (by kernel_rfl) ⟨y1, y2⟩ (fun hHeld => ?_)
        refine wpAnyH_take (i := 0) (v := .nilIface) (by simp only [List.getElem?_toArray, List.getElem?_cons_zero]; rfl) (by kernel_rfl) (by kernel_rfl) (by kernel_rfl) (by exact fun _ _ _ h => h) (Or.inl ⟨by rfl, ?_⟩) (by assumption) ?_
        · intro w hSw
          go_simp
        simp only [Act.put, List.setIfInBounds_toArray, List.set_cons_zero, List.set_cons_succ]
        refine wpAnyH_take (i := 1) (v := .bool true) (by simp only [List.getElem?_toArray, List.getElem?_cons_zero, List.getElem?_cons_succ]; rfl) (by kernel_rfl) (by kernel_rfl) (by kernel_rfl) (by exact fun _ _ _ h => h) (Or.inl ⟨by rfl, ?_⟩) (by assumption) ?_
        · intro w hSw
          go_simp
        simp only [Act.put, List.setIfInBounds_toArray, List.set_cons_zero, List.set_cons_succ]
        refine wpAnyH_take (i := 2) (v := .pointer (some ⟨x, 0, none⟩)) (by simp only [List.getElem?_toArray, List.getElem?_cons_zero, List.getElem?_cons_succ]; rfl) (by kernel_rfl) (by kernel_rfl) (by kernel_rfl) (by exact fun _ _ _ h => h) (Or.inl ⟨by rfl, ?_⟩) (by assumption) ?_
        · intro w hSw
          go_simp
        simp only [Act.put, List.setIfInBounds_toArray, List.set_cons_zero, List.set_cons_succ]
        refine wpAnyH_take (i := 3) (v := .int .i64 (i : Int)) (by simp only [List.getElem?_toArray, List.getElem?_cons_zero, List.getElem?_cons_succ]; rfl) (by kernel_rfl) (by kernel_rfl) (by kernel_rfl) (by exact fun _ _ _ h => h) (Or.inl ⟨by rfl, ?_⟩) (by assumption) ?_
        · intro w hSw
          go_simp
        simp only [Act.put, List.setIfInBounds_toArray, List.set_cons_zero, List.set_cons_succ]
        refine wpAnyH_take (i := 4) (v := .pointer (some ⟨x, 0, none⟩)) (by simp only [List.getElem?_toArray, List.getElem?_cons_zero, List.getElem?_cons_succ]; rfl) (by kernel_rfl) (by kernel_rfl) (by kernel_rfl) (by exact fun _ _ _ h => h) (Or.inl ⟨by rfl, ?_⟩) (by assumption) ?_
        · intro w hSw
          go_simp
        simp only [Act.put, List.setIfInBounds_toArray, List.set_cons_zero, List.set_cons_succ]
        refine wpAnyH_take (i := 5) (v := .pointer (some ⟨x, 60, none⟩)) (by simp only [List.getElem?_toArray, List.getElem?_cons_zero, List.getElem?_cons_succ]; rfl) (by kernel_rfl) (by kernel_rfl) (by kernel_rfl) (by exact fun _ _ _ h => h) (Or.inl ⟨by rfl, ?_⟩) (by assumption) ?_
        · intro w hSw
          go_simp
        simp only [Act.put, List.setIfInBounds_toArray, List.set_cons_zero, List.set_cons_succ]
        refine wpAnyH_take (i := 6) (v := .pointer (some ⟨x, 60 + i, none⟩)) (by simp only [List.getElem?_toArray, List.getElem?_cons_zero, List.getElem?_cons_succ]; rfl) (by kernel_rfl) (by kernel_rfl) (by kernel_rfl) (by exact fun _ _ _ h => h) (Or.inl ⟨by rfl, ?_⟩) (by assumption) ?_
        · intro w hSw
          go_simp
        simp only [Act.put, List.setIfInBounds_toArray, List.set_cons_zero, List.set_cons_succ]
        refine wpAnyH_take (i := 7) (v := .bool true) (by simp only [List.getElem?_toArray, List.getElem?_cons_zero, List.getElem?_cons_succ]; rfl) (by kernel_rfl) (by kernel_rfl) (by kernel_rfl) (by exact fun _ _ _ h => h) (Or.inl ⟨by rfl, ?_⟩) (by assumption) ?_
        · intro w hSw
          go_simp
        simp only [Act.put, List.setIfInBounds_toArray, List.set_cons_zero, List.set_cons_succ]
        refine wpAnyH_take (i := 8) (v := .bool false) (by simp only [List.getElem?_toArray, List.getElem?_cons_zero, List.getElem?_cons_succ]; rfl) (by kernel_rfl) (by kernel_rfl) (by kernel_rfl) (by exact fun _ _ _ h => h) (Or.inl ⟨by rfl, ?_⟩) (by assumption) ?_
        · intro w hSw
          go_simp
        simp only [Act.put, List.setIfInBounds_toArray, List.set_cons_zero, List.set_cons_succ]
        refine wpAnyH_take (i := 9) (v := .bool false) (by simp only [List.getElem?_toArray, List.getElem?_cons_zero, List.getElem?_cons_succ]; rfl) (by kernel_rfl) (by kernel_rfl) (by kernel_rfl) (by exact fun _ _ _ h => h) (Or.inl ⟨by rfl, ?_⟩) (by assumption) ?_
        · intro w hSw
          go_simp
        simp only [Act.put, List.setIfInBounds_toArray, List.set_cons_zero, List.set_cons_succ]
        refine wpAnyH_take (i := 10) (v := .nilIface) (by simp only [List.getElem?_toArray, List.getElem?_cons_zero, List.getElem?_cons_succ]; rfl) (by kernel_rfl) (by kernel_rfl) (by kernel_rfl) (by exact fun _ _ _ h => h) (Or.inl ⟨by rfl, ?_⟩) (by assumption) ?_
        · intro w hSw
          go_simp
        simp only [Act.put, List.setIfInBounds_toArray, List.set_cons_zero, List.set_cons_succ]
        refine wpAnyH_take (i := 11) (v := .bool true) (by simp only [List.getElem?_toArray, List.getElem?_cons_zero, List.getElem?_cons_succ]; rfl) (by kernel_rfl) (by kernel_rfl) (by kernel_rfl) (by exact fun _ _ _ h => h) (Or.inl ⟨by rfl, ?_⟩) (by assumption) ?_
        · intro w hSw
          go_simp
        simp only [Act.put, List.setIfInBounds_toArray, List.set_cons_zero, List.set_cons_succ]
        refine wpAnyH_take (i := 12) (v := .bool true) (by simp only [List.getElem?_toArray, List.getElem?_cons_zero, List.getElem?_cons_succ]; rfl) (by kernel_rfl) (by kernel_rfl) (by kernel_rfl) (by exact fun _ _ _ h => h) (Or.inl ⟨by rfl, ?_⟩) (by assumption) ?_
        · intro w hSw
          go_simp
        simp only [Act.put, List.setIfInBounds_toArray, List.set_cons_zero, List.set_cons_succ]
        refine wpAnyH_take (i := 13) (v := .slice ra nl.length rc) (by simp only [List.getElem?_toArray, List.getElem?_cons_zero, List.getElem?_cons_succ]; rfl) (by kernel_rfl) (by kernel_rfl) (by kernel_rfl) (by exact fun _ _ _ h => h) (Or.inl ⟨by rfl, ?_⟩) (by assumption) ?_
        · intro w hSw
          go_simp
        simp only [Act.put, List.setIfInBounds_toArray, List.set_cons_zero, List.set_cons_succ]
        refine wpAnyH_take (i := 14) (v := .pointer (some ⟨x, 0, none⟩)) (by simp only [List.getElem?_toArray, List.getElem?_cons_zero, List.getElem?_cons_succ]; rfl) (by kernel_rfl) (by kernel_rfl) (by kernel_rfl) (by exact fun _ _ _ h => h) (Or.inl ⟨by rfl, ?_⟩) (by assumption) ?_
        · intro w hSw
          go_simp
        simp only [Act.put, List.setIfInBounds_toArray, List.set_cons_zero, List.set_cons_succ]
        refine wpAnyH_take (i := 15) (v := .int .i64 (i : Int)) (by simp only [List.getElem?_toArray, List.getElem?_cons_zero, List.getElem?_cons_succ]; rfl) (by kernel_rfl) (by kernel_rfl) (by kernel_rfl) (by exact fun _ _ _ h => h) (Or.inl ⟨by rfl, ?_⟩) (by assumption) ?_
        · intro w hSw
          go_simp
        simp only [Act.put, List.setIfInBounds_toArray, List.set_cons_zero, List.set_cons_succ]
        refine wpAnyH_take (i := 16) (v := .pointer (some ⟨x, 0, none⟩)) (by simp only [List.getElem?_toArray, List.getElem?_cons_zero, List.getElem?_cons_succ]; rfl) (by kernel_rfl) (by kernel_rfl) (by kernel_rfl) (by exact fun _ _ _ h => h) (Or.inl ⟨by rfl, ?_⟩) (by assumption) ?_
        · intro w hSw
          go_simp
        simp only [Act.put, List.setIfInBounds_toArray, List.set_cons_zero, List.set_cons_succ]
        refine wpAnyH_take (i := 17) (v := .pointer (some ⟨x, 0, none⟩)) (by simp only [List.getElem?_toArray, List.getElem?_cons_zero, List.getElem?_cons_succ]; rfl) (by kernel_rfl) (by kernel_rfl) (by kernel_rfl) (by exact fun _ _ _ h => h) (Or.inl ⟨by rfl, ?_⟩) (by assumption) ?_
        · intro w hSw
          go_simp
        simp only [Act.put, List.setIfInBounds_toArray, List.set_cons_zero, List.set_cons_succ]
        refine wpAnyH_take (i := 18) (v := .pointer (some ⟨x, i, none⟩)) (by simp only [List.getElem?_toArray, List.getElem?_cons_zero, List.getElem?_cons_succ]; rfl) (by kernel_rfl) (by kernel_rfl) (by kernel_rfl) (by exact fun _ _ _ h => h) (Or.inl ⟨by rfl, ?_⟩) (by assumption) ?_
        · intro w hSw
          go_simp
        simp only [Act.put, List.setIfInBounds_toArray, List.set_cons_zero, List.set_cons_succ]
        refine wpAnyH_take (i := 19) (v := .slice na nl.length nc) (by simp only [List.getElem?_toArray, List.getElem?_cons_zero, List.getElem?_cons_succ]; rfl) (by kernel_rfl) (by kernel_rfl) (by kernel_rfl) (by exact fun _ _ _ h => h) (Or.inl ⟨by rfl, ?_⟩) (by assumption) ?_
        · intro w hSw
          go_simp
        simp only [Act.put, List.setIfInBounds_toArray, List.set_cons_zero, List.set_cons_succ]
        refine wpAnyH_ready (rs := [20]) (by kernel_rfl) (by simp) ?_
        refine AllReadyH.cons (by simp only [List.getElem?_toArray, List.getElem?_cons_zero, List.getElem?_cons_succ]; rfl) (fun K0 hK => ?_) AllReadyH.nil
        go_simp
        refine (hsm _ (by first | exact (Below.refl _ _).drew | exact Below.refl _ _)).mono ?_
        rintro e w2 ⟨rfl, b2⟩
        have B2 := (Below.refl w1.heap.size w1).drew.trans (b2.mono (Nat.le_refl _))
        go_wp2_with fail
        refine hK.out _ _ ⟨kept b2 y1, kept b2 y2⟩ (fun hHeld => ?_)
        clear hK K0
        refine wpAnyH_take (i := 21) (v := .bool false) (by simp only [List.getElem?_toArray, List.getElem?_cons_zero, List.getElem?_cons_succ]; rfl) (by kernel_rfl) (by kernel_rfl) (by kernel_rfl) (by exact fun _ _ _ h => h) (Or.inl ⟨by rfl, ?_⟩) (by assumption) ?_
        · intro w hSw
          go_simp
        simp only [Act.put, List.setIfInBounds_toArray, List.set_cons_zero, List.set_cons_succ]
        refine wpAnyH_take (i := 22) (v := .bool false) (by simp only [List.getElem?_toArray, List.getElem?_cons_zero, List.getElem?_cons_succ]; rfl) (by kernel_rfl) (by kernel_rfl) (by kernel_rfl) (by exact fun _ _ _ h => h) (Or.inl ⟨by rfl, ?_⟩) (by assumption) ?_
        · intro w hSw
          go_simp
        simp only [Act.put, List.setIfInBounds_toArray, List.set_cons_zero, List.set_cons_succ]
        refine wpAnyH_take (i := 23) (v := .bool false) (by simp only [List.getElem?_toArray, List.getElem?_cons_zero, List.getElem?_cons_succ]; rfl) (by kernel_rfl) (by kernel_rfl) (by kernel_rfl) (by exact fun _ _ _ h => h) (Or.inl ⟨by rfl, ?_⟩) (by assumption) ?_
        · intro w hSw
          go_simp
        simp only [Act.put, List.setIfInBounds_toArray, List.set_cons_zero, List.set_cons_succ]
        refine wpAnyH_take (i := 24) (v := .bool false) (by simp only [List.getElem?_toArray, List.getElem?_cons_zero, List.getElem?_cons_succ]; rfl) (by kernel_rfl) (by kernel_rfl) (by kernel_rfl) (by exact fun _ _ _ h => h) (Or.inl ⟨by rfl, ?_⟩) (by assumption) ?_
        · intro w hSw
          go_simp
        simp only [Act.put, List.setIfInBounds_toArray, List.set_cons_zero, List.set_cons_succ]
        refine wpAnyH_take (i := 25) (v := .nilIface) (by simp only [List.getElem?_toArray, List.getElem?_cons_zero, List.getElem?_cons_succ]; rfl) (by kernel_rfl) (by kernel_rfl) (by kernel_rfl) (by exact fun _ _ _ h => h) (Or.inl ⟨by rfl, ?_⟩) (by assumption) ?_
        · intro w hSw
          go_simp
        simp only [Act.put, List.setIfInBounds_toArray, List.set_cons_zero, List.set_cons_succ]
        refine wpAnyH_take (i := 26) (v := .bool false) (by simp only [List.getElem?_toArray, List.getElem?_cons_zero, List.getElem?_cons_succ]; rfl) (by kernel_rfl) (by kernel_rfl) (by kernel_rfl) (by exact fun _ _ _ h => h) (Or.inl ⟨by rfl, ?_⟩) (by assumption) ?_
        · intro w hSw
          go_simp
        simp only [Act.put, List.setIfInBounds_toArray, List.set_cons_zero, List.set_cons_succ]
        refine wpAnyH_take (i := 27) (v := .bool false) (by simp only [List.getElem?_toArray, List.getElem?_cons_zero, List.getElem?_cons_succ]; rfl) (by kernel_rfl) (by kernel_rfl) (by kernel_rfl) (by exact fun _ _ _ h => h) (Or.inl ⟨by rfl, ?_⟩) (by assumption) ?_
        · intro w hSw
          go_simp
        simp only [Act.put, List.setIfInBounds_toArray, List.set_cons_zero, List.set_cons_succ]
        refine wpAnyH_take (i := 28) (v := undef) (by simp only [List.getElem?_toArray, List.getElem?_cons_zero, List.getElem?_cons_succ]; rfl) (by kernel_rfl) (by kernel_rfl) (by kernel_rfl) (by exact fun _ _ _ h => h) (Or.inr ⟨by rfl, rfl⟩) (by assumption) ?_
        simp only [Act.put, List.setIfInBounds_toArray, List.set_cons_zero, List.set_cons_succ]
        refine wpAnyH_take (i := 29) (v := undef) (by simp only [List.getElem?_toArray, List.getElem?_cons_zero, List.getElem?_cons_succ]; rfl) (by kernel_rfl) (by kernel_rfl) (by kernel_rfl) (by exact fun _ _ _ h => h) (Or.inr ⟨by rfl, rfl⟩) (by assumption) ?_
        simp only [Act.put, List.setIfInBounds_toArray, List.set_cons_zero, List.set_cons_succ]
        refine wpAnyH_take (i := 30) (v := undef) (by simp only [List.getElem?_toArray, List.getElem?_cons_zero, List.getElem?_cons_succ]; rfl) (by kernel_rfl) (by kernel_rfl) (by kernel_rfl) (by exact fun _ _ _ h => h) (Or.inr ⟨by rfl, rfl⟩) (by assumption) ?_
        simp only [Act.put, List.setIfInBounds_toArray, List.set_cons_zero, List.set_cons_succ]
        refine wpAnyH_take (i := 31) (v := .bool false) (by simp only [List.getElem?_toArray, List.getElem?_cons_zero, List.getElem?_cons_succ]; rfl) (by kernel_rfl) (by kernel_rfl) (by kernel_rfl) (by exact fun _ _ _ h => h) (Or.inl ⟨by rfl, ?_⟩) (by assumption) ?_
        · intro w hSw
          go_simp
        simp only [Act.put, List.setIfInBounds_toArray, List.set_cons_zero, List.set_cons_succ]
        refine wpAnyH_take (i := 32) (v := .bool false) (by simp only [List.getElem?_toArray, List.getElem?_cons_zero, List.getElem?_cons_succ]; rfl) (by kernel_rfl) (by kernel_rfl) (by kernel_rfl) (by exact fun _ _ _ h => h) (Or.inl ⟨by rfl, ?_⟩) (by assumption) ?_
        · intro w hSw
          go_simp
        simp only [Act.put, List.setIfInBounds_toArray, List.set_cons_zero, List.set_cons_succ]
        refine wpAnyH_done (by kernel_rfl) ?_ _
        have HB2 := hid (HB1.out.trans (B2.mono HB1.out.size))
        have HO2 := hid (ownsRow_below HO1.out B2)
        have hz2 := HB2.out.size
        have HSV := hid (HSU.out.trans (by simp) : (List.range (i + 1)).filter M.on = (List.range i).filter M.on ++ [i])
        clear hsm y1 y2 b2 B2 hHeld
        go_wp2_with (at_builtin; go_must (refine wpList_push elInt rfl _ _ rfl w.heap.size _ _ _ rfl (HO2.out.alloc _) w2.heap.size (.int .i64 (i : Int)) rfl (by simp) rfl (by unfold maxLen; omega) (by omega) (by simp; omega) ?_); intro v3 w3 o3 hb3 hg3)
        go_roundw
        case rel => exact ⟨i + 1, by omega, by go_num, by rw [HSV.out, List.length_append]; simpa [nums] using o3, HB2.out.trans (((Below.refl _ _).alloc hz2 _).trans hb3)⟩
        case measure => simp [RowKit.intOf]; omega
      | false =>
        have hsu1 := hsu false ho
        rw [ho] at hr hv1
        have HSU := hid hsu1
        rw [if_neg (by decide)] at hr
        unfold ReadTo0 at hr
        simp only at hr
        clear ho hsu hsu1 hrow hvr
        go_wp2_with fail
        refine hr.mono ?_
        rintro e w1 ⟨⟨a8, ha8, rfl⟩, b1⟩
        have B1 := hb.trans (b1.mono hz)
        have his : ∀ w', Below w1.heap.size w1 w' → _ := fun w' hb' => SeeW.is_w bs w' (((HB.out.below hb).below b1).below hb') 8 a8 ha8 109
        have e109 : ((101 : Int) + ((8 : Nat) : Int) == 109) = true := by decide
        simp only [e109] at his
        have y1 := kept b1 hv1
        have y2 := kept b1 hv2
        have HO1 := hid (ownsRow_below own b1)
        have HB1 := hid B1
        clear hr hb b1 B1 hv1 hv2 own e109
        go_upto_region 6 with fail
        refine wp_region_held_drew (S := fun w' => w'.cell? ⟨x, 60 + i, none⟩ = some (.bool false) ∧ w'.cell? ⟨x, i, none⟩ = some (.slice na nl.length nc)) (by kernel_rfl) ⟨y1, y2⟩ (fun hHeld => ?_)
        refine wpAnyH_take (i := 0) (v := ev a8) (by simp only [List.getElem?_toArray, List.getElem?_cons_zero]; rfl) (by kernel_rfl) (by kernel_rfl) (by kernel_rfl) (by exact fun _ _ _ h => h) (Or.inl ⟨by rfl, ?_⟩) (by assumption) ?_
        · intro w hSw
          go_simp
        simp only [Act.put, List.setIfInBounds_toArray, List.set_cons_zero, List.set_cons_succ]
        refine wpAnyH_take (i := 1) (v := .bool false) (by simp only [List.getElem?_toArray, List.getElem?_cons_zero, List.getElem?_cons_succ]; rfl) (by kernel_rfl) (by kernel_rfl) (by kernel_rfl) (by exact fun _ _ _ h => h) (Or.inl ⟨by rfl, ?_⟩) (by assumption) ?_
        · intro w hSw
          go_simp
        simp only [Act.put, List.setIfInBounds_toArray, List.set_cons_zero, List.set_cons_succ]
        refine wpAnyH_take (i := 2) (v := .pointer (some ⟨x, 0, none⟩)) (by simp only [List.getElem?_toArray, List.getElem?_cons_zero, List.getElem?_cons_succ]; rfl) (by kernel_rfl) (by kernel_rfl) (by kernel_rfl) (by exact fun _ _ _ h => h) (Or.inl ⟨by rfl, ?_⟩) (by assumption) ?_
        · intro w hSw
          go_simp
        simp only [Act.put, List.setIfInBounds_toArray, List.set_cons_zero, List.set_cons_succ]
        refine wpAnyH_take (i := 3) (v := .int .i64 (i : Int)) (by simp only [List.getElem?_toArray, List.getElem?_cons_zero, List.getElem?_cons_succ]; rfl) (by kernel_rfl) (by kernel_rfl) (by kernel_rfl) (by exact fun _ _ _ h => h) (Or.inl ⟨by rfl, ?_⟩) (by assumption) ?_
        · intro w hSw
          go_simp
        simp only [Act.put, List.setIfInBounds_toArray, List.set_cons_zero, List.set_cons_succ]
        refine wpAnyH_take (i := 4) (v := .pointer (some ⟨x, 0, none⟩)) (by simp only [List.getElem?_toArray, List.getElem?_cons_zero, List.getElem?_cons_succ]; rfl) (by kernel_rfl) (by kernel_rfl) (by kernel_rfl) (by exact fun _ _ _ h => h) (Or.inl ⟨by rfl, ?_⟩) (by assumption) ?_
        · intro w hSw
          go_simp
        simp only [Act.put, List.setIfInBounds_toArray, List.set_cons_zero, List.set_cons_succ]
        refine wpAnyH_take (i := 5) (v := .pointer (some ⟨x, 60, none⟩)) (by simp only [List.getElem?_toArray, List.getElem?_cons_zero, List.getElem?_cons_succ]; rfl) (by kernel_rfl) (by kernel_rfl) (by kernel_rfl) (by exact fun _ _ _ h => h) (Or.inl ⟨by rfl, ?_⟩) (by assumption) ?_
        · intro w hSw
          go_simp
        simp only [Act.put, List.setIfInBounds_toArray, List.set_cons_zero, List.set_cons_succ]
        refine wpAnyH_take (i := 6) (v := .pointer (some ⟨x, 60 + i, none⟩)) (by simp only [List.getElem?_toArray, List.getElem?_cons_zero, List.getElem?_cons_succ]; rfl) (by kernel_rfl) (by kernel_rfl) (by kernel_rfl) (by exact fun _ _ _ h => h) (Or.inl ⟨by rfl, ?_⟩) (by assumption) ?_
        · intro w hSw
          go_simp
        simp only [Act.put, List.setIfInBounds_toArray, List.set_cons_zero, List.set_cons_succ]
        refine wpAnyH_take (i := 7) (v := .bool false) (by simp only [List.getElem?_toArray, List.getElem?_cons_zero, List.getElem?_cons_succ]; rfl) (by kernel_rfl) (by kernel_rfl) (by kernel_rfl) (by exact fun _ _ _ h => h) (Or.inl ⟨by rfl, ?_⟩) (by assumption) ?_
        · intro w hSw
          go_simp
        simp only [Act.put, List.setIfInBounds_toArray, List.set_cons_zero, List.set_cons_succ]
        refine wpAnyH_take (i := 8) (v := .bool false) (by simp only [List.getElem?_toArray, List.getElem?_cons_zero, List.getElem?_cons_succ]; rfl) (by kernel_rfl) (by kernel_rfl) (by kernel_rfl) (by exact fun _ _ _ h => h) (Or.inl ⟨by rfl, ?_⟩) (by assumption) ?_
        · intro w hSw
          go_simp
        simp only [Act.put, List.setIfInBounds_toArray, List.set_cons_zero, List.set_cons_succ]
        refine wpAnyH_take (i := 9) (v := .bool false) (by simp only [List.getElem?_toArray, List.getElem?_cons_zero, List.getElem?_cons_succ]; rfl) (by kernel_rfl) (by kernel_rfl) (by kernel_rfl) (by exact fun _ _ _ h => h) (Or.inl ⟨by rfl, ?_⟩) (by assumption) ?_
        · intro w hSw
          go_simp
        simp only [Act.put, List.setIfInBounds_toArray, List.set_cons_zero, List.set_cons_succ]
        refine wpAnyH_take (i := 10) (v := ev a8) (by simp only [List.getElem?_toArray, List.getElem?_cons_zero, List.getElem?_cons_succ]; rfl) (by kernel_rfl) (by kernel_rfl) (by kernel_rfl) (by exact fun _ _ _ h => h) (Or.inl ⟨by rfl, ?_⟩) (by assumption) ?_
        · intro w hSw
          go_simp
        simp only [Act.put, List.setIfInBounds_toArray, List.set_cons_zero, List.set_cons_succ]
        refine wpAnyH_take (i := 11) (v := .bool false) (by simp only [List.getElem?_toArray, List.getElem?_cons_zero, List.getElem?_cons_succ]; rfl) (by kernel_rfl) (by kernel_rfl) (by kernel_rfl) (by exact fun _ _ _ h => h) (Or.inl ⟨by rfl, ?_⟩) (by assumption) ?_
        · intro w hSw
          go_simp
        simp only [Act.put, List.setIfInBounds_toArray, List.set_cons_zero, List.set_cons_succ]
        refine wpAnyH_take (i := 12) (v := .bool false) (by simp only [List.getElem?_toArray, List.getElem?_cons_zero, List.getElem?_cons_succ]; rfl) (by kernel_rfl) (by kernel_rfl) (by kernel_rfl) (by exact fun _ _ _ h => h) (Or.inl ⟨by rfl, ?_⟩) (by assumption) ?_
        · intro w hSw
          go_simp
        simp only [Act.put, List.setIfInBounds_toArray, List.set_cons_zero, List.set_cons_succ]
        refine wpAnyH_take (i := 13) (v := undef) (by simp only [List.getElem?_toArray, List.getElem?_cons_zero, List.getElem?_cons_succ]; rfl) (by kernel_rfl) (by kernel_rfl) (by kernel_rfl) (by exact fun _ _ _ h => h) (Or.inr ⟨by rfl, rfl⟩) (by assumption) ?_
        simp only [Act.put, List.setIfInBounds_toArray, List.set_cons_zero, List.set_cons_succ]
        refine wpAnyH_take (i := 14) (v := undef) (by simp only [List.getElem?_toArray, List.getElem?_cons_zero, List.getElem?_cons_succ]; rfl) (by kernel_rfl) (by kernel_rfl) (by kernel_rfl) (by exact fun _ _ _ h => h) (Or.inr ⟨by rfl, rfl⟩) (by assumption) ?_
        simp only [Act.put, List.setIfInBounds_toArray, List.set_cons_zero, List.set_cons_succ]
        refine wpAnyH_take (i := 15) (v := undef) (by simp only [List.getElem?_toArray, List.getElem?_cons_zero, List.getElem?_cons_succ]; rfl) (by kernel_rfl) (by kernel_rfl) (by kernel_rfl) (by exact fun _ _ _ h => h) (Or.inr ⟨by rfl, rfl⟩) (by assumption) ?_
        simp only [Act.put, List.setIfInBounds_toArray, List.set_cons_zero, List.set_cons_succ]
        refine wpAnyH_take (i := 16) (v := undef) (by simp only [List.getElem?_toArray, List.getElem?_cons_zero, List.getElem?_cons_succ]; rfl) (by kernel_rfl) (by kernel_rfl) (by kernel_rfl) (by exact fun _ _ _ h => h) (Or.inr ⟨by rfl, rfl⟩) (by assumption) ?_
        simp only [Act.put, List.setIfInBounds_toArray, List.set_cons_zero, List.set_cons_succ]
        refine wpAnyH_take (i := 17) (v := undef) (by simp only [List.getElem?_toArray, List.getElem?_cons_zero, List.getElem?_cons_succ]; rfl) (by kernel_rfl) (by kernel_rfl) (by kernel_rfl) (by exact fun _ _ _ h => h) (Or.inr ⟨by rfl, rfl⟩) (by assumption) ?_
        simp only [Act.put, List.setIfInBounds_toArray, List.set_cons_zero, List.set_cons_succ]
        refine wpAnyH_take (i := 18) (v := undef) (by simp only [List.getElem?_toArray, List.getElem?_cons_zero, List.getElem?_cons_succ]; rfl) (by kernel_rfl) (by kernel_rfl) (by kernel_rfl) (by exact fun _ _ _ h => h) (Or.inr ⟨by rfl, rfl⟩) (by assumption) ?_
        simp only [Act.put, List.setIfInBounds_toArray, List.set_cons_zero, List.set_cons_succ]
        refine wpAnyH_take (i := 19) (v := undef) (by simp only [List.getElem?_toArray, List.getElem?_cons_zero, List.getElem?_cons_succ]; rfl) (by kernel_rfl) (by kernel_rfl) (by kernel_rfl) (by exact fun _ _ _ h => h) (Or.inr ⟨by rfl, rfl⟩) (by assumption) ?_
        simp only [Act.put, List.setIfInBounds_toArray, List.set_cons_zero, List.set_cons_succ]
        refine wpAnyH_take (i := 20) (v := undef) (by simp only [List.getElem?_toArray, List.getElem?_cons_zero, List.getElem?_cons_succ]; rfl) (by kernel_rfl) (by kernel_rfl) (by kernel_rfl) (by exact fun _ _ _ h => h) (Or.inr ⟨by rfl, rfl⟩) (by assumption) ?_
        simp only [Act.put, List.setIfInBounds_toArray, List.set_cons_zero, List.set_cons_succ]
        refine wpAnyH_take (i := 21) (v := undef) (by simp only [List.getElem?_toArray, List.getElem?_cons_zero, List.getElem?_cons_succ]; rfl) (by kernel_rfl) (by kernel_rfl) (by kernel_rfl) (by exact fun _ _ _ h => h) (Or.inr ⟨by rfl, rfl⟩) (by assumption) ?_
        simp only [Act.put, List.setIfInBounds_toArray, List.set_cons_zero, List.set_cons_succ]
        refine wpAnyH_take (i := 22) (v := .bool false) (by simp only [List.getElem?_toArray, List.getElem?_cons_zero, List.getElem?_cons_succ]; rfl) (by kernel_rfl) (by kernel_rfl) (by kernel_rfl) (by exact fun _ _ _ h => h) (Or.inl ⟨by rfl, ?_⟩) (by assumption) ?_
        · intro w hSw
          go_simp
        simp only [Act.put, List.setIfInBounds_toArray, List.set_cons_zero, List.set_cons_succ]
        refine wpAnyH_take (i := 23) (v := .bool false) (by simp only [List.getElem?_toArray, List.getElem?_cons_zero, List.getElem?_cons_succ]; rfl) (by kernel_rfl) (by kernel_rfl) (by kernel_rfl) (by exact fun _ _ _ h => h) (Or.inl ⟨by rfl, ?_⟩) (by assumption) ?_
        · intro w hSw
          go_simp
        simp only [Act.put, List.setIfInBounds_toArray, List.set_cons_zero, List.set_cons_succ]
        refine wpAnyH_take (i := 24) (v := .bool false) (by simp only [List.getElem?_toArray, List.getElem?_cons_zero, List.getElem?_cons_succ]; rfl) (by kernel_rfl) (by kernel_rfl) (by kernel_rfl) (by exact fun _ _ _ h => h) (Or.inl ⟨by rfl, ?_⟩) (by assumption) ?_
        · intro w hSw
          go_simp
        simp only [Act.put, List.setIfInBounds_toArray, List.set_cons_zero, List.set_cons_succ]
        refine wpAnyH_take (i := 25) (v := ev a8) (by simp only [List.getElem?_toArray, List.getElem?_cons_zero, List.getElem?_cons_succ]; rfl) (by kernel_rfl) (by kernel_rfl) (by kernel_rfl) (by exact fun _ _ _ h => h) (Or.inl ⟨by rfl, ?_⟩) (by assumption) ?_
        · intro w hSw
          go_simp
        simp only [Act.put, List.setIfInBounds_toArray, List.set_cons_zero, List.set_cons_succ]
        refine wpAnyH_take (i := 26) (v := .bool true) (by simp only [List.getElem?_toArray, List.getElem?_cons_zero, List.getElem?_cons_succ]; rfl) (by kernel_rfl) (by kernel_rfl) (by kernel_rfl) (by exact fun _ _ _ h => h) (Or.inl ⟨by rfl, ?_⟩) (by assumption) ?_
        · intro w hSw
          go_simp
        simp only [Act.put, List.setIfInBounds_toArray, List.set_cons_zero, List.set_cons_succ]
        refine wpAnyH_take (i := 27) (v := .bool true) (by simp only [List.getElem?_toArray, List.getElem?_cons_zero, List.getElem?_cons_succ]; rfl) (by kernel_rfl) (by kernel_rfl) (by kernel_rfl) (by exact fun _ _ _ h => h) (Or.inl ⟨by rfl, ?_⟩) (by assumption) ?_
        · intro w hSw
          go_simp
        simp only [Act.put, List.setIfInBounds_toArray, List.set_cons_zero, List.set_cons_succ]
        refine wpAnyH_take (i := 28) (v := ev a8) (by simp only [List.getElem?_toArray, List.getElem?_cons_zero, List.getElem?_cons_succ]; rfl) (by kernel_rfl) (by kernel_rfl) (by kernel_rfl) (by exact fun _ _ _ h => h) (Or.inl ⟨by rfl, ?_⟩) (by assumption) ?_
        · intro w hSw
          go_simp
        simp only [Act.put, List.setIfInBounds_toArray, List.set_cons_zero, List.set_cons_succ]
        refine wpAnyH_ready (rs := [29]) (by kernel_rfl) (by simp) ?_
        refine AllReadyH.cons (by simp only [List.getElem?_toArray, List.getElem?_cons_zero, List.getElem?_cons_succ]; rfl) (fun K0 hK => ?_) AllReadyH.nil
        go_simp
        refine (his _ (by first | exact (Below.refl _ _).drew | exact Below.refl _ _)).mono ?_
        rintro e w2 ⟨rfl, b2⟩
        have B2 := (Below.refl w1.heap.size w1).drew.trans (b2.mono (Nat.le_refl _))
        go_wp2_with fail
        refine hK.out _ _ ⟨kept b2 y1, kept b2 y2⟩ (fun hHeld => ?_)
        clear hK K0
        refine wpAnyH_take (i := 30) (v := .bool false) (by simp only [List.getElem?_toArray, List.getElem?_cons_zero, List.getElem?_cons_succ]; rfl) (by kernel_rfl) (by kernel_rfl) (by kernel_rfl) (by exact fun _ _ _ h => h) (Or.inl ⟨by rfl, ?_⟩) (by assumption) ?_
        · intro w hSw
          go_simp
        simp only [Act.put, List.setIfInBounds_toArray, List.set_cons_zero, List.set_cons_succ]
        refine wpAnyH_take (i := 31) (v := .bool false) (by simp only [List.getElem?_toArray, List.getElem?_cons_zero, List.getElem?_cons_succ]; rfl) (by kernel_rfl) (by kernel_rfl) (by kernel_rfl) (by exact fun _ _ _ h => h) (Or.inl ⟨by rfl, ?_⟩) (by assumption) ?_
        · intro w hSw
          go_simp
        simp only [Act.put, List.setIfInBounds_toArray, List.set_cons_zero, List.set_cons_succ]
        refine wpAnyH_take (i := 32) (v := .bool false) (by simp only [List.getElem?_toArray, List.getElem?_cons_zero, List.getElem?_cons_succ]; rfl) (by kernel_rfl) (by kernel_rfl) (by kernel_rfl) (by exact fun _ _ _ h => h) (Or.inl ⟨by rfl, ?_⟩) (by assumption) ?_
        · intro w hSw
          go_simp
        simp only [Act.put, List.setIfInBounds_toArray, List.set_cons_zero, List.set_cons_succ]
        refine wpAnyH_done (by kernel_rfl) ?_ _
        have HB2 := hid (HB1.out.trans (B2.mono HB1.out.size))
        have HO2 := hid (ownsRow_below HO1.out B2)
        have HSV := hid (HSU.out.trans (by simp) : (List.range (i + 1)).filter M.on = (List.range i).filter M.on)
        clear his y1 y2 b2 B2 hHeld
        go_wp2_with fail
        go_roundw
        case rel => exact ⟨i + 1, by omega, by go_num, by rw [HSV.out]; exact HO2.out, HB2.out⟩
        case measure => simp [RowKit.intOf]; omega
    · obtain rfl : i = 30 := by omega
      obtain ⟨va, vc, rfl, hvr⟩ := ownsRow_slice own
      have hpg := fun (w' : World) (hb' : Below wr.heap.size wr w') => (HS.out.below (hb.trans (hb'.mono hb.size))).pages
      have hep := fun (w' : World) (hb' : Below wr.heap.size wr w') => (HS.out.below (hb.trans (hb'.mono hb.size))).epoch
      rw [HR.out.there] at hpg
      have y1 : wr.cell? ⟨x, 120, none⟩ = some (.int .i64 (ep : Int)) := by rw [(HM.out.below hb).at_ _ (by omega), M.val_ep, HR.out.ep]
      have hvr' : Nums .i64 wr va ((List.range 30).filter M.on).length vc ((List.range 30).filter M.on) := hvr
      generalize (List.range 30).filter M.on = L at *
      have hsi := fun (a : Option Addr) (cap : Nat) (w1 w' : World) (b1 : Below wr.heap.size wr w1) (hn : Nums .i64 w1 a L.length cap L) (hb' : Below w1.heap.size w1 w') => RefW.sameints_w a L.length cap L va L.length vc L w' (hn.below hb') ((hvr'.below b1).below hb')
      simp only [decide_true] at hsi
      clear hvr hvr' own
      go_upto_region 10 with fail
      refine wp_region_held_drew (S := fun w' => w'.cell? ⟨x, 120, none⟩ = some (.int .i64 (ep : Int))) (by kernel_rfl) y1 (fun hHeld => ?_)
      refine wpAnyH_take (i := 0) (v := ptr s) (by simp only [List.getElem?_toArray, List.getElem?_cons_zero]; rfl) (by kernel_rfl) (by kernel_rfl) (by kernel_rfl) (by exact fun _ _ _ h => h) (Or.inl ⟨by rfl, ?_⟩) (by assumption) ?_
      · intro w hSw
        go_simp
      simp only [Act.put, List.setIfInBounds_toArray, List.set_cons_zero, List.set_cons_succ]
      refine wpAnyH_take (i := 2) (v := .slice va L.length vc) (by simp only [List.getElem?_toArray, List.getElem?_cons_zero, List.getElem?_cons_succ]; rfl) (by kernel_rfl) (by kernel_rfl) (by kernel_rfl) (by exact fun _ _ _ h => h) (Or.inl ⟨by rfl, ?_⟩) (by assumption) ?_
      · intro w hSw
        go_simp
      simp only [Act.put, List.setIfInBounds_toArray, List.set_cons_zero, List.set_cons_succ]
      refine wpAnyH_ready (rs := [1]) (by kernel_rfl) (by simp) ?_
      refine AllReadyH.cons (by simp only [List.getElem?_toArray, List.getElem?_cons_zero, List.getElem?_cons_succ]; rfl) (fun K0 hK => ?_) AllReadyH.nil
      go_simp
      refine (hpg _ (by first | exact (Below.refl _ _).drew | exact Below.refl _ _)).mono ?_
      rintro e w2 ⟨⟨a2, c2, rfl, n2⟩, b2⟩
      have B2 := (Below.refl wr.heap.size wr).drew.trans (b2.mono (Nat.le_refl _))
      go_wp2_with fail
      refine hK.out _ _ (kept b2 y1) (fun hHeld => ?_)
      clear hK K0
      refine wpAnyH_ready (rs := [3]) (by kernel_rfl) (by simp) ?_
      refine AllReadyH.cons (by simp only [List.getElem?_toArray, List.getElem?_cons_zero, List.getElem?_cons_succ]; rfl) (fun K0 hK => ?_) AllReadyH.nil
      go_simp
      refine (hsi a2 c2 w2 _ B2 n2 (Below.refl _ _)).mono ?_
      rintro e w3 ⟨rfl, b3⟩
      have B3 := B2.trans (b3.mono B2.size)
      go_wp2_with fail
      refine hK.out _ _ (kept b3 (kept b2 y1)) (fun hHeld => ?_)
      clear hK K0
      refine wpAnyH_take (i := 4) (v := .bool true) (by simp only [List.getElem?_toArray, List.getElem?_cons_zero, List.getElem?_cons_succ]; rfl) (by kernel_rfl) (by kernel_rfl) (by kernel_rfl) (by exact fun _ _ _ h => h) (Or.inl ⟨by rfl, ?_⟩) (by assumption) ?_
      · intro w hSw
        go_simp
      simp only [Act.put, List.setIfInBounds_toArray, List.set_cons_zero, List.set_cons_succ]
      refine wpAnyH_take (i := 5) (v := ptr s) (by simp only [List.getElem?_toArray, List.getElem?_cons_zero, List.getElem?_cons_succ]; rfl) (by kernel_rfl) (by kernel_rfl) (by kernel_rfl) (by exact fun _ _ _ h => h) (Or.inl ⟨by rfl, ?_⟩) (by assumption) ?_
      · intro w hSw
        go_simp
      simp only [Act.put, List.setIfInBounds_toArray, List.set_cons_zero, List.set_cons_succ]
      refine wpAnyH_take (i := 7) (v := ptr x) (by simp only [List.getElem?_toArray, List.getElem?_cons_zero, List.getElem?_cons_succ]; rfl) (by kernel_rfl) (by kernel_rfl) (by kernel_rfl) (by exact fun _ _ _ h => h) (Or.inl ⟨by rfl, ?_⟩) (by assumption) ?_
      · intro w hSw
        go_simp
      simp only [Act.put, List.setIfInBounds_toArray, List.set_cons_zero, List.set_cons_succ]
      refine wpAnyH_take (i := 8) (v := .pointer (some ⟨x, 0, none⟩)) (by simp only [List.getElem?_toArray, List.getElem?_cons_zero, List.getElem?_cons_succ]; rfl) (by kernel_rfl) (by kernel_rfl) (by kernel_rfl) (by exact fun _ _ _ h => h) (Or.inl ⟨by rfl, ?_⟩) (by assumption) ?_
      · intro w hSw
        go_simp
      simp only [Act.put, List.setIfInBounds_toArray, List.set_cons_zero, List.set_cons_succ]
      refine wpAnyH_take (i := 9) (v := .pointer (some ⟨x, 120, none⟩)) (by simp only [List.getElem?_toArray, List.getElem?_cons_zero, List.getElem?_cons_succ]; rfl) (by kernel_rfl) (by kernel_rfl) (by kernel_rfl) (by exact fun _ _ _ h => h) (Or.inl ⟨by rfl, ?_⟩) (by assumption) ?_
      · intro w hSw
        go_simp
      simp only [Act.put, List.setIfInBounds_toArray, List.set_cons_zero, List.set_cons_succ]
      refine wpAnyH_take (i := 10) (v := .int .i64 (ep : Int)) (by simp only [List.getElem?_toArray, List.getElem?_cons_zero, List.getElem?_cons_succ]; rfl) (by kernel_rfl) (by kernel_rfl) (by kernel_rfl) (by exact fun _ _ _ h => h) (Or.inl ⟨by rfl, ?_⟩) (by assumption) ?_
      · intro w hSw
        go_simp
      simp only [Act.put, List.setIfInBounds_toArray, List.set_cons_zero, List.set_cons_succ]
      refine wpAnyH_ready (rs := [6]) (by kernel_rfl) (by simp) ?_
      refine AllReadyH.cons (by simp only [List.getElem?_toArray, List.getElem?_cons_zero, List.getElem?_cons_succ]; rfl) (fun K0 hK => ?_) AllReadyH.nil
      go_simp
      refine (hep _ B3).mono ?_
      rintro e w4 ⟨rfl, hw4⟩
      subst w4
      go_wp2_with fail
      refine hK.out _ _ (kept b3 (kept b2 y1)) (fun hHeld => ?_)
      clear hK K0
      refine wpAnyH_take (i := 11) (v := .bool true) (by simp only [List.getElem?_toArray, List.getElem?_cons_zero, List.getElem?_cons_succ]; rfl) (by kernel_rfl) (by kernel_rfl) (by kernel_rfl) (by exact fun _ _ _ h => h) (Or.inl ⟨by rfl, ?_⟩) (by assumption) ?_
      · intro w hSw
        go_simp
      simp only [Act.put, List.setIfInBounds_toArray, List.set_cons_zero, List.set_cons_succ]
      refine wpAnyH_take (i := 12) (v := .bool true) (by simp only [List.getElem?_toArray, List.getElem?_cons_zero, List.getElem?_cons_succ]; rfl) (by kernel_rfl) (by kernel_rfl) (by kernel_rfl) (by exact fun _ _ _ h => h) (Or.inl ⟨by rfl, ?_⟩) (by assumption) ?_
      · intro w hSw
        go_simp
      simp only [Act.put, List.setIfInBounds_toArray, List.set_cons_zero, List.set_cons_succ]
      refine wpAnyH_take (i := 13) (v := .bool true) (by simp only [List.getElem?_toArray, List.getElem?_cons_zero, List.getElem?_cons_succ]; rfl) (by kernel_rfl) (by kernel_rfl) (by kernel_rfl) (by exact fun _ _ _ h => h) (Or.inl ⟨by rfl, ?_⟩) (by assumption) ?_
      · intro w hSw
        go_simp
      simp only [Act.put, List.setIfInBounds_toArray, List.set_cons_zero, List.set_cons_succ]
      refine wpAnyH_done (by kernel_rfl) ?_ _
      have HF := hid (HBW.out.trans (B3.mono HBW.out.size))
      clear hpg hep hsi y1 n2 b2 b3 B2 B3 hHeld
      go_wp2_with fail
      go_ret
      exact ⟨rfl, HF.out⟩
end Go.Proofs.YtbjfgdahfpfgdaaGreatDoor.PgW

namespace Go.Proofs.YtbjfgdahfpfgdaaGreatDoor.PgW
open Go Go.RowKit Go.Maps Go.Proofs.YtbjfgdahfpfgdaaGreatDoor.Mem Go.Proofs.YtbjfgdahfpfgdaaGreatDoor.MapsW Go.Proofs.YtbjfgdahfpfgdaaGreatDoor.SeeW Go.Proofs.YtbjfgdahfpfgdaaGreatDoor.DevG Go.Proofs.YtbjfgdahfpfgdaaGreatDoor.PairG Go.Proofs.YtbjfgdahfpfgdaaGreatDoor.RefsW Go.Proofs.YtbjfgdahfpfgdaaGreatDoor.PgP Go.Proofs.YtbjfgdahfpfgdaaGreatDoor.RootP Go.Proofs.YtbjfgdahfpfgdaaGreatDoor.RootW
set_option linter.unusedVariables false
set_option maxRecDepth 100000

/-- a page dropped where it is there -/
def dropN (N V : Int → Option (List Nat)) (n : Nat) : Int → Option (List Nat) := if (view N V (n : Int)).isSome then upd N (n : Int) (some []) else N
theorem Store.sub {Y Y' : List Nat} {bs : List Addr} {w : World} {lo b n c : Nat} {s d : Nat} {V N : Int → Option (List Nat)} {ep : Nat} (h : Store Y bs w lo b n c s d V N ep) (hY : ∀ y ∈ Y', y ∈ Y) : Store Y' bs w lo b n c s d V N ep := by
  obtain ⟨m, D, I, S, h⟩ := h
  exact ⟨m, D, I, S, ⟨h.at_, h.st, h.hs, h.hd, h.hH, h.bl, h.b1, h.b2, h.cl, h.ic, h.ev, h.los, h.now, h.ep, fun y hy => h.out y (hY y hy)⟩⟩
/-- a store, and the model of it -/
structure Play (Y : List Nat) (bs : List Addr) (w : World) (lo b n c s d x : Nat) (V N : Int → Option (List Nat)) (ep : Nat) (M : Md) : Prop where
  st : Store Y bs w lo b n c s d V N ep
  md : MdAt w x M
  rel : Rel M V N ep
  mem : x ∈ Y
  lox : lo ≤ x
theorem Play.below {Y : List Nat} {bs : List Addr} {w w' : World} {lo b n c s d x : Nat} {V N : Int → Option (List Nat)} {ep : Nat} {M : Md} (h : Play Y bs w lo b n c s d x V N ep M) (hb : Below w.heap.size w w') : Play Y bs w' lo b n c s d x V N ep M :=
  ⟨h.st.below hb, h.md.below hb, h.rel, h.mem, h.lox⟩
theorem Play.alloc {Y : List Nat} {bs : List Addr} {w : World} {lo b n c s d x : Nat} {V N : Int → Option (List Nat)} {ep : Nat} {M : Md} (h : Play Y bs w lo b n c s d x V N ep M) (o : Obj) : Play (w.heap.size :: Y) bs (w.alloc o) lo b n c s d x V N ep M :=
  ⟨h.st.alloc o, h.md.below ((Below.refl _ w).alloc (Nat.le_refl _) o), h.rel, by simp [h.mem], h.lox⟩
theorem Play.sub {Y Y' : List Nat} {bs : List Addr} {w : World} {lo b n c s d x : Nat} {V N : Int → Option (List Nat)} {ep : Nat} {M : Md} (h : Play Y bs w lo b n c s d x V N ep M) (hY : ∀ y ∈ Y', y ∈ Y) (hx : x ∈ Y') : Play Y' bs w lo b n c s d x V N ep M :=
  ⟨h.st.sub hY, h.md, h.rel, hx, h.lox⟩
/-- what the store does -/
theorem Play.did {Y : List Nat} {bs : List Addr} {w w' : World} {lo b n n' c c' s d x : Nat} {V V' N N' : Int → Option (List Nat)} {ep ep' : Nat} {M : Md} (h : Play Y bs w lo b n c s d x V N ep M) (k : Store Y bs w' lo b n' c' s d V' N' ep') (hk : Kp Y w w') : Store Y bs w' lo b n' c' s d V' N' ep' ∧ MdAt w' x M := ⟨k, h.md.kp hk h.mem⟩
/-- the model's cell is another -/
theorem Store.cell {Y : List Nat} {bs : List Addr} {w w' : World} {lo b n c s d x : Nat} {V N : Int → Option (List Nat)} {ep : Nat} {M : Md} (h : Store Y bs w lo b n c s d V N ep) (hM : MdAt w x M) (hx : x ∈ Y) (hl : lo ≤ x) (ht : Turn [x] w w') : Store Y bs w' lo b n c s d V N ep := h.set hx ht (.inr hM.c0) hl
/-- a write that is refused -/
theorem Store.writeE {Y : List Nat} {bs : List Addr} {w : World} {lo b n c : Nat} {s d : Nat} {V N : Int → Option (List Nat)} {ep : Nat} (h : Store Y bs w lo b n c s d V N ep) (hn : n < 690000) {p : Int} (hf : Fits p) {a : Option Addr} {cap : Nat} {l : List Nat} (hl : Nums .u8 w a l.length cap l) {q : Nat} (hq : (isP p = false ∧ q = 2) ∨ (isP p = true ∧ (l.length < 1 ∨ 248 < l.length) ∧ q = 1)) :
    Calls Tryz.prog 15 #[ptr s, .int .i64 p, .slice a l.length cap] w fun e w' => (∃ a, bs[q]? = some a ∧ e = .returned (ev a)) ∧ Store Y bs w' lo b (n + 1) c s d V N ep ∧ Below lo w w' ∧ Kp Y w w' := by
  obtain ⟨m, D, I, S, h⟩ := h
  have hw := write_w bs lo n m D I S p a cap l w h.at_ h.ev hf hl (by omega)
  have hput : St.put S p l = (some q, S) := by
    unfold St.put
    rcases hq with ⟨h1, rfl⟩ | ⟨h1, h2, rfl⟩
    · rw [if_pos h1]
    · rw [h1, if_neg (by decide), if_pos h2]
  rw [hput, h.hs] at hw
  refine hw.mono ?_
  rintro e w' ⟨⟨v, hv, rfl⟩, h2', h3'⟩
  obtain ⟨a', ha', rfl⟩ := hv
  have hX : ∀ x ∈ [I.o], lo ≤ x := fun x hx => by rw [List.mem_singleton.1 hx]; exact h.at_.slo.2.2
  exact ⟨⟨a', ha', rfl⟩, ⟨m, D, I, S, h.far h2' h.st rfl rfl rfl rfl h.cl h.ic h3' hX h.now h.ep (fun x hx => .inl hx)⟩, h3'.below h.los hX, h.kp h3' (fun x hx => by rw [List.mem_singleton.1 hx]; simp)⟩
theorem Store.dropE {Y : List Nat} {bs : List Addr} {w : World} {lo b n c : Nat} {s d : Nat} {V N : Int → Option (List Nat)} {ep : Nat} (h : Store Y bs w lo b n c s d V N ep) (hn : n < 690000) {p : Int} (hf : Fits p) (hp : isP p = false) :
    Calls Tryz.prog 26 #[ptr s, .int .i64 p] w fun e w' => (∃ a, bs[2]? = some a ∧ e = .returned (ev a)) ∧ Store Y bs w' lo b (n + 1) c s d V N ep ∧ Below lo w w' ∧ Kp Y w w' := by
  obtain ⟨m, D, I, S, h⟩ := h
  have hw := drop_w bs lo n m D I S p w h.at_ h.ev hf (by omega)
  have hput : St.drop S p = (some 2, S) := by unfold St.drop; rw [if_pos hp]
  rw [hput, h.hs] at hw
  refine hw.mono ?_
  rintro e w' ⟨⟨v, hv, rfl⟩, h2', h3'⟩
  obtain ⟨a', ha', rfl⟩ := hv
  have hX : ∀ x ∈ [I.o], lo ≤ x := fun x hx => by rw [List.mem_singleton.1 hx]; exact h.at_.slo.2.2
  exact ⟨⟨a', ha', rfl⟩, ⟨m, D, I, S, h.far h2' h.st rfl rfl rfl rfl h.cl h.ic h3' hX h.now h.ep (fun x hx => .inl hx)⟩, h3'.below h.los hX, h.kp h3' (fun x hx => by rw [List.mem_singleton.1 hx]; simp)⟩
end Go.Proofs.YtbjfgdahfpfgdaaGreatDoor.PgW

namespace Go.Proofs.YtbjfgdahfpfgdaaGreatDoor.PgW
open Go Go.RowKit Go.Maps Go.ChangeShapes Go.WideShapes Go.Deep Go.Proofs.YtbjfgdahfpfgdaaGreatDoor.Mem Go.Proofs.YtbjfgdahfpfgdaaGreatDoor.DevG
set_option linter.unusedVariables false
set_option maxRecDepth 100000

/-- the i-th of them -/
structure DoP (w : World) (b o i : Nat) (K N : Int) (s : Option Addr) (sl sc : Nat) (l : List Nat) : Prop where
  c0 : w.cell? ⟨b, o + i * 3, none⟩ = some (.int .i64 K)
  c1 : w.cell? ⟨b, o + i * 3 + 1, none⟩ = some (.int .i64 N)
  c2 : w.cell? ⟨b, o + i * 3 + 2, none⟩ = some (.slice s sl sc)
  nums : Nums .u8 w s sl sc l
  bytes : ∀ x ∈ l, x < 256
  k64 : -9223372036854775808 ≤ K ∧ K ≤ 9223372036854775807
  n64 : -9223372036854775808 ≤ N ∧ N ≤ 9223372036854775807
theorem DoP.below {w w' : World} {b o i : Nat} {K N : Int} {s : Option Addr} {sl sc : Nat} {l : List Nat} (h : DoP w b o i K N s sl sc l) (hb : Below w.heap.size w w') : DoP w' b o i K N s sl sc l :=
  ⟨kept hb h.c0, kept hb h.c1, kept hb h.c2, h.nums.below hb, h.bytes, h.k64, h.n64⟩
theorem dop_at {H : Type} {enc : TypeId × Value → H} {w : World} {fs : Array Field} {a0 : Option Addr} {len0 cap0 : Nat} (h : Structs enc Tryz.prog w 0 (fun _ => true) true fs a0 len0 cap0)
    (hfs : fs.toList.map (·.type) = [3, 3, 35]) {i : Nat} (hi : i < len0) :
    ∃ b o, a0 = some ⟨b, o, none⟩ ∧ ∃ K N s sl sc l, DoP w b o i K N s sl sc l := by
  rcases h with ⟨rfl, rfl, rfl⟩ | ⟨a, rfl, hb, hl, hm, hx⟩
  · omega
  have hsz : fs.size = 3 := by
    have := congrArg List.length hfs
    simpa using this
  have hf : ∀ (j : Nat) (t : TypeId), ([3, 3, 35] : List TypeId)[j]? = some t → ∃ f : Field, fs[j]? = some f ∧ f.type = t := by
    intro j t ht
    rw [← hfs, List.getElem?_map] at ht
    obtain ⟨f, hf, rfl⟩ := Option.map_eq_some_iff.1 ht
    exact ⟨f, by rw [← Array.getElem?_toList]; exact hf, rfl⟩
  obtain ⟨f0, g0, t0⟩ := hf 0 _ rfl
  obtain ⟨f1, g1, t1⟩ := hf 1 _ rfl
  obtain ⟨f4, g4, t4⟩ := hf 2 _ rfl
  have ex := hx i hi
  rw [hsz] at ex
  obtain ⟨x0, m0, y0, c0, d0⟩ := ex 0 f0 g0
  obtain ⟨x1, m1, y1, c1, d1⟩ := ex 1 f1 g1
  obtain ⟨x4, m4, y4, c4, d4⟩ := ex 2 f4 g4
  rw [t0] at d0
  rw [t1] at d1
  rw [t4] at d4
  obtain ⟨K, e0, _, k0⟩ := DataW.trod_int Tryz.underlying3 d0
  obtain ⟨N, e1, _, k1⟩ := DataW.trod_int Tryz.underlying3 d1
  cases e0; cases e1
  obtain ⟨b, o, spot⟩ := a
  have hs : spot = none := by
    have ez := hx 0 (by omega) 0 f0 g0
    obtain ⟨z0, _, _, cz, _⟩ := ez
    have := World.cell?_spot cz
    rw [Nat.zero_mul, Nat.zero_add] at this
    exact this
  subst hs
  simp only [Addr.add_lit] at c0 c1 c4
  refine ⟨b, o, rfl, K, N, ?_⟩
  rcases open_ints (k := .u8) Tryz.underlying35 Tryz.underlying5 (by kernel_rfl) d4 with ⟨e4, _⟩ | ⟨q, ln, cp, zs, e4, _, q1, q2, q3, _, q4, q5⟩
  · cases e4
    exact ⟨none, 0, 0, [], c0, c1, c4, Nums.nil _ _, by simp, int_of k0, int_of k1⟩
  · cases e4
    obtain ⟨l, h1, h2⟩ := nums_of (k := .u8) rfl (w := w) (a := some q) (len := ln) (cap := cp) (zs := zs) (.inr ⟨q, rfl, q1, q2, by simpa using q3, q4, q5⟩)
    exact ⟨some q, ln, cp, l, c0, c1, c4, h1, h2, int_of k0, int_of k1⟩
/-- the i-th is there, and light -/
def Lt (w : World) (a0 : Option Addr) (i : Nat) : Prop := ∃ b o, a0 = some ⟨b, o, none⟩ ∧ ∃ K N s sl sc l, DoP w b o i K N s sl sc l ∧ sl ≤ 300 ∧ ¬ (30 ≤ N ∧ N < 256)
set_option maxHeartbeats 3200000 in
theorem light_w (a0 : Option Addr) (len0 cap0 most : Nat) (w : World) (hl : len0 ≤ 9223372036854775807) (hm : most ≤ 1000) (hd : ∀ i, i < len0 → ∃ b o, a0 = some ⟨b, o, none⟩ ∧ ∃ K N s sl sc l, DoP w b o i K N s sl sc l) :
    Calls Tryz.prog 22 #[.slice a0 len0 cap0, .int .i64 (most : Int)] w fun e w' => (∃ r, e = .returned (.bool r) ∧ (r = true → len0 ≤ most ∧ ∀ i, i < len0 → Lt w a0 i)) ∧ Below w.heap.size w w' := by
  have HD := hid hd
  clear hd
  go_enter Tryz.func22, Tryz.ntmps22
  go_wp2_with fail
  go_loopw [5] (fun iv wr => ∃ i : Nat, i ≤ len0 ∧ iv = .int .i64 i ∧ (∀ j, j < i → Lt w a0 j) ∧ Below w.heap.size w wr) (fun iv _ => len0 - (RowKit.intOf iv).toNat)
  case atStart => exact ⟨0, by omega, rfl, fun j hj => absurd hj (by omega), Below.refl _ _⟩
  case round =>
    obtain ⟨i, hi, rfl, hL, hb⟩ := hrel
    have HL := hid hL
    have HB := hid hb
    by_cases hlt : i < len0
    · obtain ⟨b, o, rfl, K, N, s, sl, sc, l, hdo⟩ := HD.out i hlt
      have HDO := hid hdo
      have hdw := hdo.below hb
      obtain ⟨c1, c2⟩ := (⟨hdw.c1, hdw.c2⟩ : _ ∧ _)
      have hbd := hdo.nums.bound
      have hcl : sl ≤ 9223372036854775807 := by omega
      clear hL hb hdo hdw hbd
      by_cases h1 : 300 < sl
      · have d1 : decide ((300 : Int) < (sl : Int)) = true := decide_eq_true (by omega)
        go_wp2_with fail
        all_goals
          go_ret
          exact ⟨⟨false, rfl, fun h => by cases h⟩, HB.out⟩
      · have d1 : decide ((300 : Int) < (sl : Int)) = false := decide_eq_false (by omega)
        cases h2 : decide ((30 : Int) ≤ N) with
        | false =>
          have HN := hid (show sl ≤ 300 ∧ ¬ (30 ≤ N ∧ N < 256) from ⟨by omega, fun h => of_decide_eq_false h2 h.1⟩)
          clear h1
          go_wp2_with fail
          go_roundw
          case rel =>
            refine ⟨i + 1, by omega, by go_num, fun j hj => ?_, HB.out⟩
            by_cases e : j = i
            · subst e
              exact ⟨b, o, rfl, K, N, s, sl, sc, l, HDO.out, HN.out.1, HN.out.2⟩
            · exact HL.out j (by omega)
          case measure => simp [RowKit.intOf]; omega
        | true =>
          cases h3 : decide (N < (256 : Int)) with
          | true =>
            clear h1
            go_wp2_with fail
            go_ret
            exact ⟨⟨false, rfl, fun h => by cases h⟩, HB.out⟩
          | false =>
            have HN := hid (show sl ≤ 300 ∧ ¬ (30 ≤ N ∧ N < 256) from ⟨by omega, fun h => of_decide_eq_false h3 h.2⟩)
            clear h1
            go_wp2_with fail
            go_roundw
            case rel =>
              refine ⟨i + 1, by omega, by go_num, fun j hj => ?_, HB.out⟩
              by_cases e : j = i
              · subst e
                exact ⟨b, o, rfl, K, N, s, sl, sc, l, HDO.out, HN.out.1, HN.out.2⟩
              · exact HL.out j (by omega)
            case measure => simp [RowKit.intOf]; omega
    · obtain rfl : i = len0 := by omega
      clear hL hb
      go_wp2_with fail
      go_ret
      refine ⟨⟨_, rfl, fun h => ⟨?_, HL.out⟩⟩, HB.out⟩
      have := of_decide_eq_true h
      omega
end Go.Proofs.YtbjfgdahfpfgdaaGreatDoor.PgW
