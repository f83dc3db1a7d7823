/- Plain facts: a store over a device of which one copy of each pair may be wrong; its tables read; Plain facts: a commit cut short, an Open cut short, and their crashes; Plain facts: the root made whole over a device of which copies are wrong; The walks of page's nothing and right; Plain facts: what Heal leaves of a device of which copies are wrong. -/
import Derived.Test.YtbjfgdahfpfgdaaGreatDoorPageFaultsP18
import Derived.Test.YtbjfgdahfpfgdaaGreatDoorPageFaultsP6
import Derived.Test.YtbjfgdahfpfgdaaGreatDoorPageFaultsP5
import Derived.Test.YtbjfgdahfpfgdaaGreatDoorPageFaultsP7
namespace Go.Proofs.YtbjfgdahfpfgdaaGreatDoor.PgW
open Go Go.RowKit Go.Maps Go.Proofs.YtbjfgdahfpfgdaaGreatDoor.Mem Go.Proofs.YtbjfgdahfpfgdaaGreatDoor.MapsW Go.Proofs.YtbjfgdahfpfgdaaGreatDoor.SeeW Go.Proofs.YtbjfgdahfpfgdaaGreatDoor.DevG Go.Proofs.YtbjfgdahfpfgdaaGreatDoor.PairG Go.Proofs.YtbjfgdahfpfgdaaGreatDoor.PgP Go.Proofs.YtbjfgdahfpfgdaaGreatDoor.RootP Go.Proofs.YtbjfgdahfpfgdaaGreatDoor.RootW
set_option linter.unusedVariables false
set_option maxRecDepth 100000

/-- what stands though copies are wrong: C is what each pair is to have -/
structure Limp (H : Nat) (S : St) (V : Int → Option (List Nat)) (C : Nat → List Nat) (D : Dv) : Prop where
  fit : Fit H S V (fun a l => C a = l)
  now : S.now = fun _ => none
  lame : ∀ a, 2 ≤ a → a < H → a ∈ used S.tabs S.at_ H → Lame D H a (C a)
  down : D.down = false
  fuse : D.fuse = 0
  bytes : ∀ i l, D.read i = some l → Crc.Bytes l
  le : ∀ s ∈ spots H, ∀ q, oneOf D (s : Int) = some q → q.ep ≤ (S.ep : Int)
  eq : ∀ s ∈ spots H, ∀ q, oneOf D (s : Int) = some q → q.ep = (S.ep : Int) → q = ⟨(S.ep : Int), S.rs⟩
  one : 0 < S.ep → oneOf D ((S.ep % 2 : Nat) : Int) = some ⟨(S.ep : Int), S.rs⟩ ∨ oneOf D ((S.ep % 2 + H : Nat) : Int) = some ⟨(S.ep : Int), S.rs⟩
  rt : ∀ s ∈ spots H, Rs D (s : Int)
theorem Limp.best {H : Nat} {S : St} {V : Int → Option (List Nat)} {C : Nat → List Nat} {D : Dv} (h : Limp H S V C D) (h0 : 0 < S.ep) : bestOf D H = ⟨(S.ep : Int), S.rs⟩ := by
  refine best_of (by show (0 : Int) < (S.ep : Int); omega) ?_ fun s hs q hq => ?_
  · rcases h.one h0 with e | e
    · exact ⟨_, (spot_of H S.ep).1, e⟩
    · exact ⟨_, (spot_of H S.ep).2, e⟩
  · by_cases e : q.ep = (S.ep : Int)
    · exact .inl (h.eq s hs q hq e)
    · have := h.le s hs q hq
      right
      show q.ep < (S.ep : Int)
      omega
/-- a copy is mended -/
theorem Limp.put {H : Nat} {S : St} {V : Int → Option (List Nat)} {C : Nat → List Nat} {D : Dv} (h : Limp H S V C D) {b : Nat} (b2 : 2 ≤ b) (bH : b < H) (hb : b ∈ used S.tabs S.at_ H) (q : Nat) (hq : q = b ∨ q = b + H) : Limp H S V C (D.put (q : Int) (C b)) := by
  have hso : ∀ s ∈ spots H, oneOf (D.put (q : Int) (C b)) (s : Int) = oneOf D (s : Int) := fun s hs => by
    have hne : (s : Int) ≠ (q : Int) := by rcases spots_mem hs with rfl | rfl | rfl | rfl <;> omega
    unfold oneOf
    rw [put_read_other D hne]
  refine ⟨h.fit, h.now, fun a a2 aH ha => (h.lame a a2 aH ha).put aH bH q hq (fun e => by rw [e]), h.down, h.fuse, fun i l hl => ?_, fun s hs r hr => ?_, fun s hs r hr he => ?_, fun h0 => ?_, fun s hs => (h.rt s hs).put _ _⟩
  · by_cases e : i = (q : Int)
    · rw [e, put_read_same] at hl
      cases hl
      exact (h.lame b b2 bH hb).blk.1
    · rw [put_read_other D e] at hl
      exact h.bytes i l hl
  · rw [hso s hs] at hr; exact h.le s hs r hr
  · rw [hso s hs] at hr; exact h.eq s hs r hr he
  · rw [hso _ (spot_of H S.ep).1, hso _ (spot_of H S.ep).2]; exact h.one h0
/-- the tables read one behind the other -/
def tabStep (S : St) (H t : Nat) (x : Dv × Nat) : Dv × Nat :=
  if PgP.has S.at_ t then ((PairG.readP x.1 H x.2 (S.tabs.getD t (0, 0)).1.toNat (S.tabs.getD t (0, 0)).2).2.1, (PairG.readP x.1 H x.2 (S.tabs.getD t (0, 0)).1.toNat (S.tabs.getD t (0, 0)).2).2.2) else x
def tabRun (S : St) (H : Nat) (D : Dv) : Nat → Dv × Nat
  | 0 => (D, 0)
  | t + 1 => tabStep S H t (tabRun S H D t)
structure Ran (H : Nat) (S : St) (V : Int → Option (List Nat)) (C : Nat → List Nat) (D : Dv) (t : Nat) (x : Dv × Nat) : Prop where
  limp : Limp H S V C x.1
  blocks : x.1.blocks = D.blocks
  np : x.1.np ≤ D.np + t
  calls : x.1.calls ≤ D.calls + t
  c : x.2 ≤ t
theorem Limp.tab {H : Nat} {S : St} {V : Int → Option (List Nat)} {C : Nat → List Nat} {D : Dv} (h : Limp H S V C D) {t : Nat} (ht : t < 7) (hh : PgP.has S.at_ t = true) : ∃ a : Nat, S.tabs.getD t (0, 0) = ((a : Int), Crc.sum (tblk S.at_ t)) ∧ 2 ≤ a ∧ a < H ∧ a ∈ used S.tabs S.at_ H ∧ C a = tblk S.at_ t := by
  obtain ⟨a, e, a1, a2, a3⟩ := h.fit.tb t ht hh
  refine ⟨a, e, a1, a2, mem_used.2 ⟨a2, .inr (.inl ⟨S.tabs.getD t (0, 0), ?_, by rw [e]⟩)⟩, a3⟩
  rw [List.getD_eq_getElem?_getD, List.getElem?_eq_getElem (by rw [h.fit.t7]; exact ht)]
  exact List.getElem_mem _
theorem Ran.step {H : Nat} {S : St} {V : Int → Option (List Nat)} {C : Nat → List Nat} {D : Dv} {t : Nat} {x : Dv × Nat} (h : Ran H S V C D t x) (ht : t < 7) : Ran H S V C D (t + 1) (tabStep S H t x) := by
  unfold tabStep
  cases hh : PgP.has S.at_ t with
  | false => exact ⟨h.limp, h.blocks, by have := h.np; simp only [Bool.false_eq_true, if_false]; omega, by have := h.calls; simp only [Bool.false_eq_true, if_false]; omega, by have := h.c; simp only [Bool.false_eq_true, if_false]; omega⟩
  | true =>
    rw [if_pos rfl]
    obtain ⟨a, e, a2, aH, au, hC⟩ := h.limp.tab ht hh
    have hl := h.limp.lame a a2 aH au
    rw [hC] at hl
    have hnp := h.np
    have hcl := h.calls
    have hc := h.c
    have e1 : (S.tabs.getD t (0, 0)).1.toNat = a := by rw [e]; exact Int.toNat_natCast a
    have e2 : (S.tabs.getD t (0, 0)).2 = Crc.sum (tblk S.at_ t) := by rw [e]
    rw [e1, e2]
    rcases hl.readP x.2 with ⟨g, _⟩ | ⟨g, _⟩
    · rw [g]
      exact ⟨h.limp, h.blocks, by show x.1.np ≤ _; omega, by show x.1.calls ≤ _; omega, by show x.2 ≤ _; omega⟩
    · rw [g]
      have hp := h.limp.put a2 aH au a (.inl rfl)
      rw [hC] at hp
      have hn := put_np x.1 (a : Int) (tblk S.at_ t)
      exact ⟨hp, h.blocks, by show (x.1.put _ _).np ≤ _; omega, by show x.1.calls + 1 ≤ _; omega, by show x.2 + 1 ≤ _; omega⟩
theorem Limp.ran {H : Nat} {S : St} {V : Int → Option (List Nat)} {C : Nat → List Nat} {D : Dv} (h : Limp H S V C D) : ∀ t, t ≤ 7 → Ran H S V C D t (tabRun S H D t)
  | 0, _ => ⟨h, rfl, Nat.le_refl _, Nat.le_refl _, Nat.le_refl _⟩
  | t + 1, ht => (Limp.ran h t (by omega)).step (by omega)
theorem Limp.tabs {H : Nat} {S : St} {V : Int → Option (List Nat)} {C : Nat → List Nat} {D : Dv} (h : Limp H S V C D) (h0 : 0 < S.ep) : Tabs D H S.tabs S.at_ (fun t => (tabRun S H D t).1) (fun t => (tabRun S H D t).2) := by
  refine ⟨rfl, rfl, fun t ht hh => ?_, fun t ht hh => ?_, fun t ht => (h.ran t ht).limp.down, fun t ht => (h.ran t ht).limp.fuse.trans h.fuse.symm, fun t ht => (h.ran t ht).blocks, fun t ht => (h.ran t ht).np, fun t ht => (h.ran t ht).calls, fun t ht => (h.ran t ht).limp.bytes, fun t ht => (h.ran t ht).c, ?_⟩
  · refine ⟨h.fit.tno t ht hh, ?_, ?_⟩ <;> (show _ = _; simp only [tabRun, tabStep, hh, Bool.false_eq_true, if_false])
  · have hr := (h.ran t (by omega)).limp
    obtain ⟨a, e, a2, aH, au, hC⟩ := hr.tab ht hh
    have hl := hr.lame a a2 aH au
    rw [hC] at hl
    refine ⟨a, e, a2, aH, ?_, .inl h.fuse⟩
    have e1 : (S.tabs.getD t (0, 0)).1.toNat = a := by rw [e]; exact Int.toNat_natCast a
    have e2 : (S.tabs.getD t (0, 0)).2 = Crc.sum (tblk S.at_ t) := by rw [e]
    show _ = (some (tblk S.at_ t), (tabStep S H t (tabRun S H D t)).1, (tabStep S H t (tabRun S H D t)).2)
    unfold tabStep
    rw [if_pos hh, e1, e2]
    rcases hl.readP (tabRun S H D t).2 with ⟨g, _⟩ | ⟨g, _⟩ <;> rw [g]
  · rw [(h.ran 7 (Nat.le_refl _)).limp.best h0, h.best h0]
end Go.Proofs.YtbjfgdahfpfgdaaGreatDoor.PgW

namespace Go.Proofs.YtbjfgdahfpfgdaaGreatDoor.PgW
open Go Go.RowKit Go.Maps Go.Proofs.YtbjfgdahfpfgdaaGreatDoor.Mem Go.Proofs.YtbjfgdahfpfgdaaGreatDoor.RootP Go.Proofs.YtbjfgdahfpfgdaaGreatDoor.MapsW Go.Proofs.YtbjfgdahfpfgdaaGreatDoor.PgP Go.Proofs.YtbjfgdahfpfgdaaGreatDoor.DevG Go.Proofs.YtbjfgdahfpfgdaaGreatDoor.RootW Go.Proofs.YtbjfgdahfpfgdaaGreatDoor.PairG
set_option linter.unusedVariables false
set_option maxRecDepth 100000

/-- a commit that falls, or does not -/
theorem Stand.falls {H : Nat} {S : St} {V : Int → Option (List Nat)} {D : Dv} {x : Lay} (h : Stand H S V D) (hH : H = GeoW.half D.blocks) (h2 : 2 ≤ H) (hep : S.ep < 1000000) (h0 : cnt S.now ≠ 0) (hx : laid S H = some x) (hf : fits x H = true) (k : Nat) :
    (∃ D' f, commitT S { D with fuse := k } H = (none, behind S x, { D' with fuse := f }) ∧ f ≤ k ∧ Stand H (behind S x) (view S.now V) D' ∧ D'.blocks = D.blocks ∧ D'.calls ≤ D.calls + 2 * (cnt S.now + 7) + 4) ∨
    (∃ E, commitT S { D with fuse := k } H = (some 5, S, E) ∧ 0 < k ∧ E.down = true ∧ E.blocks = D.blocks ∧ E.np ≤ 2 * (cnt S.now + 7) + 2 ∧ E.calls ≤ D.calls + 2 * (cnt S.now + 7) + 4 ∧
      ∀ ks zs, Keys E.pe ks → Semi H { S with now := fun _ => none } V (E.crash ks zs) ∨ Semi H (behind S x) (view S.now V) (E.crash ks zs)) := by
  obtain ⟨w1, w2, w3⟩ := Fit.writes h.fit h.now hx
  have hF := flushed_puts h.idle w1 (fun b hb => (w2 b hb).1) (fun b hb => (w2 b hb).2.2.2.1)
  have h512 : H ≤ 512 := by rw [hH]; exact GeoW.half_512 _
  have hnear : ∀ {F : Dv}, F.Idle → (∀ i, F.fa i = false) → (∀ i : Int, (∀ b ∈ writes S x, i ≠ (b.1 : Int) ∧ i ≠ ((b.1 + H : Nat) : Int)) → F.read i = D.read i) → Stand H S V F := fun {F} hFi hfa hFr => by
    refine h.near hFi hfa (fun s hs => hFr _ fun b hb => ?_) fun a a1 a2 a3 => ⟨hFr _ fun b hb => ?_, hFr _ fun b hb => ?_⟩
    · have h1 := (w2 b hb).2.1
      have h3 := (w2 b hb).1
      rcases spots_mem hs with rfl | rfl | rfl | rfl <;> constructor <;> omega
    · have hne : a ≠ b.1 := fun e => (w2 b hb).2.2.1 (by rw [← e]; exact a3)
      have h3 := (w2 b hb).1
      constructor <;> omega
    · have hne : a ≠ b.1 := fun e => (w2 b hb).2.2.1 (by rw [← e]; exact a3)
      have h3 := (w2 b hb).1
      constructor <;> omega
  have hFl := hnear hF.idle (puts_fa h.fa H (writes S x)) fun i hi => hF.other i hi
  have hbe := h.fit.behind (R' := Both (puts D H (writes S x)).flush H) h.now hx (fun a l ha1 ha2 ha3 hR => ?_) (fun b hb => hF.mem b hb)
  case refine_1 =>
    have hne : ∀ b ∈ writes S x, a ≠ b.1 := fun b hb e => (w2 b hb).2.2.1 (by rw [← e]; exact ha3)
    constructor
    · rw [hF.other _ fun b hb => ⟨fun e => hne b hb (by omega), fun e => by omega⟩]; exact hR.1
    · rw [hF.other _ fun b hb => ⟨fun e => by have := (w2 b hb).1; omega, fun e => hne b hb (by omega)⟩]; exact hR.2
  have hfine : Fine ⟨((S.ep + 1 : Nat) : Int), (behind S x).tabs⟩ := Fit.fine hbe (by omega) (e := S.ep + 1) (by omega) (by omega)
  have hcm : ∀ (D0 : Dv) r, Dv.commit D0 H (S.ep + 1) (writes S x) (behind S x).tabs = r → commitT S D0 H = (match r with | (none, D') => (none, behind S x, D') | (some q, D') => (some q, S, D')) := fun D0 r e => by
    unfold commitT
    rw [if_neg h0, hx]
    simp only [hf, if_true]
    rw [e]
    rcases r with ⟨_ | q, D'⟩ <;> rfl
  rcases commit_f h.idle H (S.ep + 1) k (writes S x) (behind S x).tabs hH hF.idle with ⟨f, g1, g2, g3⟩ | ⟨E, g1, g2, g3⟩
  · left
    obtain ⟨D', e1, e2, e3, e4⟩ := h.commit hH h2 hep h0 hx hf
    have hD : D' = (puts D H (writes S x)).flush.saved H (S.ep + 1) (enc ⟨((S.ep + 1 : Nat) : Int), (behind S x).tabs⟩) := by
      have hz : ({ D with fuse := 0 } : Dv) = D := Dv.same rfl rfl rfl rfl rfl rfl rfl rfl rfl h.idle.fuse.symm rfl
      rcases commit_f h.idle H (S.ep + 1) 0 (writes S x) (behind S x).tabs hH hF.idle with ⟨f', q1, q2, q3⟩ | ⟨E, q1, q2, q3⟩
      · rw [hz] at q1
        have e1' := hcm D _ q1
        rw [e1] at e1'
        have e5 := (Prod.mk.inj (Prod.mk.inj e1').2).2
        rw [e5, q3 rfl]
        exact Dv.same rfl rfl rfl rfl rfl rfl rfl rfl rfl (Dv.saved_idle hF.idle _ _ hfine.bytes).fuse.symm rfl
      · omega
    exact ⟨D', f, by rw [hcm _ _ g1, hD], g2, e2, e3, e4⟩
  · right
    have p := puts_same H (writes S x) D
    rcases g3 with g3 | g3
    · refine ⟨E, by rw [hcm _ _ g1], g2, g3.down, g3.bl, by have := g3.np; have := h.idle.np; omega, by have := g3.cl; omega, fun ks zs hK => .inl ?_⟩
      have hc := g3.crash h.idle (fun i l ⟨b, hb, e, _⟩ => by rw [← e]; exact (w2 b hb).2.2.2.1) (zs := zs) hK
      refine (hnear hc.idle (fun i => hc.fa i (h.fa i)) fun i hi => ?_).semi
      rcases hc.rd i with e | ⟨l, ⟨b, hb, _, e⟩, _⟩
      · exact e
      · rcases e with e | e
        · exact absurd e (hi b hb).1
        · exact absurd e (hi b hb).2
    · refine ⟨E, by rw [hcm _ _ g1], g2, g3.down, g3.bl.trans hF.blocks, by have := g3.np; have := hF.idle.np; omega, by have := g3.cl; have := hF.calls; omega, fun ks zs hK => ?_⟩
      have hc := g3.crash hF.idle (fun i l hp => by rw [hp.1]; exact hfine.bytes) (zs := zs) hK
      generalize E.crash ks zs = F at hc
      have hfaF : ∀ i, F.fa i = false := fun i => hc.fa i (puts_fa h.fa H (writes S x) i)
      have ho : ∀ i : Int, oneOf F i = oneOf (puts D H (writes S x)).flush i ∨ (oneOf F i = some ⟨((S.ep + 1 : Nat) : Int), (behind S x).tabs⟩) := fun i => by
        unfold oneOf
        rcases hc.rd i with e | ⟨l, ⟨rfl, _⟩, e⟩
        · rw [e]; exact .inl rfl
        · rw [e]; exact .inr hfine.parse
      have hfit : Fit H (behind S x) (view S.now V) (Both F H) := fit_move hbe fun a l a1 a2 _ hb => by
        constructor
        · rcases hc.rd (a : Int) with e | ⟨l, ⟨_, e⟩, _⟩
          · rw [e]; exact hb.1
          · omega
        · rcases hc.rd ((a + H : Nat) : Int) with e | ⟨l, ⟨_, e⟩, _⟩
          · rw [e]; exact hb.2
          · omega
      by_cases hn : oneOf F (((S.ep + 1) % 2 : Nat) : Int) = some ⟨((S.ep + 1 : Nat) : Int), (behind S x).tabs⟩ ∨ oneOf F (((S.ep + 1) % 2 + H : Nat) : Int) = some ⟨((S.ep + 1 : Nat) : Int), (behind S x).tabs⟩
      · right
        refine ⟨hfit, rfl, hc.idle, fun s hs q hq => ?_, fun s hs q hq he => ?_, fun _ => hn, fun e => absurd e (Nat.succ_ne_zero _), hfaF, fun s hs => (by
          rcases hc.rd (s : Int) with e | ⟨l, ⟨rfl, _⟩, e⟩
          · exact (hFl.sp s hs).same e
          · exact .inr ⟨_, hfine, e⟩)⟩
        · show q.ep ≤ ((S.ep + 1 : Nat) : Int)
          rcases ho (s : Int) with e | e
          · have := hFl.root.le s hs q (by rw [← e]; exact hq); omega
          · rw [e] at hq; cases hq; exact Int.le_refl _
        · have he' : q.ep = ((S.ep + 1 : Nat) : Int) := he
          rcases ho (s : Int) with e | e
          · have := hFl.root.le s hs q (by rw [← e]; exact hq); omega
          · rw [e] at hq; cases hq; rfl
      · left
        have hrd : ∀ i : Int, F.read i = (puts D H (writes S x)).flush.read i := fun i => by
          rcases hc.rd i with e | ⟨l, ⟨rfl, e⟩, e'⟩
          · exact e
          · refine absurd ?_ hn
            have hp : oneOf F i = some ⟨((S.ep + 1 : Nat) : Int), (behind S x).tabs⟩ := by unfold oneOf; rw [e']; exact hfine.parse
            rcases e with e | e
            · exact .inl (by rw [← e]; exact hp)
            · exact .inr (by rw [← e]; exact hp)
        exact (hFl.near hc.idle hfaF (fun s _ => hrd _) fun a _ _ _ => ⟨hrd _, hrd _⟩).semi
/-- the tables of what stands but for a root's copy, the device armed or not -/
theorem Semi.tabs {H : Nat} {S : St} {V : Int → Option (List Nat)} {D : Dv} (h : Semi H S V D) (k : Nat) : Tabs { D with fuse := k } H S.tabs S.at_ (fun _ => { D with fuse := k }) (fun _ => 0) := by
  refine ⟨rfl, rfl, fun t ht hh => ⟨h.fit.tno t ht hh, rfl, rfl⟩, fun t ht hh => ?_, fun _ _ => h.idle.down, fun _ _ => rfl, fun _ _ => rfl, fun _ _ => Nat.le_add_right _ _, fun _ _ => Nat.le_add_right _ _, fun _ _ => h.idle.bytes, fun _ _ => Nat.zero_le _, rfl⟩
  obtain ⟨a, h1, h2, h3, h4⟩ := h.fit.tb t ht hh
  have h5 : ({ D with fuse := k } : Dv).read (a : Int) = some (tblk S.at_ t) := h4.1
  exact ⟨a, h1, h2, h3, readP_first h5 rfl, .inr h5⟩
/-- the root made whole, or the power gone -/
theorem Semi.whole {H : Nat} {S : St} {V : Int → Option (List Nat)} {D : Dv} (h : Semi H S V D) (h0 : 0 < S.ep) (hH : H = GeoW.half D.blocks) (h2 : 2 ≤ H) (hf : Fine ⟨(S.ep : Int), S.rs⟩) (k : Nat) :
    (∃ F f, wholeT { D with fuse := k } S = (Option.none, { F with fuse := f }) ∧ f ≤ k ∧ (k = 0 → f = 0) ∧ Stand H S V F ∧ F.blocks = D.blocks ∧ F.calls ≤ D.calls + 3) ∨
    (∃ E, wholeT { D with fuse := k } S = (some 5, E) ∧ 0 < k ∧ E.down = true ∧ E.blocks = D.blocks ∧ E.np ≤ 2 ∧ E.calls ≤ D.calls + 3 ∧ ∀ ks zs, Keys E.pe ks → Semi H S V (E.crash ks zs)) := by
  have hc : copies { D with fuse := k } (GeoW.half D.blocks) S.ep = copies D H S.ep := by rw [hH]; rfl
  unfold wholeT
  show (∃ F f, (if copies { D with fuse := k } (GeoW.half D.blocks) S.ep = 2 then _ else _) = _ ∧ _) ∨ (∃ E, (if copies { D with fuse := k } (GeoW.half D.blocks) S.ep = 2 then _ else _) = _ ∧ _)
  rw [hc]
  by_cases h3 : copies D H S.ep = 2
  · rw [if_pos h3]
    exact .inl ⟨D, k, rfl, Nat.le_refl _, id, h.stand fun _ => h.two h3, rfl, by omega⟩
  · rw [if_neg h3]
    show (∃ F f, Dv.save { D with fuse := k } (GeoW.half D.blocks) S.ep _ = _ ∧ _) ∨ (∃ E, Dv.save { D with fuse := k } (GeoW.half D.blocks) S.ep _ = _ ∧ _)
    rw [← hH, save_on]
    rcases wf_on h.idle H k [(S.ep % 2, enc ⟨(S.ep : Int), S.rs⟩)] with ⟨f, q1, q2, q3⟩ | ⟨E, q1, q2, q3⟩
    · rw [q1]
      have hid : (D.saved H S.ep (enc ⟨(S.ep : Int), S.rs⟩)).Idle := Dv.saved_idle h.idle _ _ hf.bytes
      have hrd := Dv.saved_read h.idle H S.ep hf.bytes
      have hone : ∀ i : Int, (i = ((S.ep % 2 : Nat) : Int) ∨ i = ((S.ep % 2 + H : Nat) : Int)) → oneOf (D.saved H S.ep (enc ⟨(S.ep : Int), S.rs⟩)) i = some ⟨(S.ep : Int), S.rs⟩ := fun i hi => by
        unfold oneOf
        rw [hrd, if_pos hi]
        exact hf.parse
      refine .inl ⟨D.saved H S.ep (enc ⟨(S.ep : Int), S.rs⟩), f, rfl, q2, q3, (h.mend h0 h2 hf hid (saved_fa h.fa H _ _) fun i => ?_).stand fun _ => ⟨hone _ (.inl rfl), hone _ (.inr rfl)⟩, (Dv.saved_calls _ _ _ _).2, by rw [(Dv.saved_calls _ _ _ _).1]; omega⟩
      rw [hrd]
      split
      · exact .inr ⟨rfl, by assumption⟩
      · exact .inl rfl
    · rw [q1]
      refine .inr ⟨E, rfl, q2, q3.down, q3.bl, by have h1 := q3.np; have := h.idle.np; rw [List.length_singleton] at h1; omega, by have h1 := q3.cl; rw [List.length_singleton] at h1; omega, fun ks zs hK => ?_⟩
      have hcr := q3.crash h.idle (fun i l ⟨b, hb, e, _⟩ => by rw [List.mem_singleton] at hb; subst hb; rw [← e]; exact hf.bytes) (zs := zs) hK
      refine h.mend h0 h2 hf hcr.idle (fun i => hcr.fa i (h.fa i)) fun i => ?_
      rcases hcr.rd i with e | ⟨l, ⟨b, hb, e1, e2⟩, e3⟩
      · exact .inl e
      · rw [List.mem_singleton] at hb
        subst hb
        rw [← e1] at e3
        exact .inr ⟨e3, e2⟩
end Go.Proofs.YtbjfgdahfpfgdaaGreatDoor.PgW

namespace Go.Proofs.YtbjfgdahfpfgdaaGreatDoor.PgW
open Go Go.RowKit Go.Maps Go.Proofs.YtbjfgdahfpfgdaaGreatDoor.Mem Go.Proofs.YtbjfgdahfpfgdaaGreatDoor.MapsW Go.Proofs.YtbjfgdahfpfgdaaGreatDoor.SeeW Go.Proofs.YtbjfgdahfpfgdaaGreatDoor.DevG Go.Proofs.YtbjfgdahfpfgdaaGreatDoor.PairG Go.Proofs.YtbjfgdahfpfgdaaGreatDoor.PgP Go.Proofs.YtbjfgdahfpfgdaaGreatDoor.RootP Go.Proofs.YtbjfgdahfpfgdaaGreatDoor.RootW
set_option linter.unusedVariables false
set_option maxRecDepth 100000

theorem flush_read (D : Dv) (q : Int) : D.flush.read q = D.read q := by
  cases hp : D.pe q with
  | some l =>
    rw [read_pending hp, read_flushed (D := D.flush) (j := q) rfl (by show (if (D.pe q).isSome then false else _) = _; rw [hp]; rfl), kept_of (E := D.flush) (i := q) (l := l) (by show (if (D.pe q).isSome then D.pe q else _) = _; rw [hp]; rfl)]
  | none => exact read_of hp.symm (by show (if (D.pe q).isSome then false else _) = _; rw [hp]; rfl) (by show (if (D.pe q).isSome then D.pe q else _) = _; rw [hp]; rfl)
theorem Lame.put_far {D : Dv} {H a : Nat} {P : List Nat} (h : Lame D H a P) {q : Int} (h1 : (a : Int) ≠ q) (h2 : ((a + H : Nat) : Int) ≠ q) (Q : List Nat) : Lame (D.put q Q) H a P :=
  ⟨h.blk, h.c1.put_other h1 Q, h.c2.put_other h2 Q, by rw [put_read_other D h1, put_read_other D h2]; exact h.one⟩
theorem Limp.flush {H : Nat} {S : St} {V : Int → Option (List Nat)} {C : Nat → List Nat} {D : Dv} (h : Limp H S V C D) : Limp H S V C D.flush := by
  have ho : ∀ i : Int, oneOf D.flush i = oneOf D i := fun i => by unfold oneOf; rw [flush_read]
  exact ⟨h.fit, h.now, fun a a2 aH ha => (h.lame a a2 aH ha).flush, h.down, h.fuse, fun i l hl => h.bytes i l (by rw [← flush_read]; exact hl), fun s hs q hq => h.le s hs q (by rw [← ho]; exact hq), fun s hs q hq => h.eq s hs q (by rw [← ho]; exact hq), fun h0 => by rw [ho, ho]; exact h.one h0, fun s hs => (h.rt s hs).flush⟩
/-- the newest root written into one of the roots' blocks -/
theorem Limp.putRoot {H : Nat} {S : St} {V : Int → Option (List Nat)} {C : Nat → List Nat} {D : Dv} (h : Limp H S V C D) (h2 : 2 ≤ H) (hf : Fine ⟨(S.ep : Int), S.rs⟩) (h0 : 0 < S.ep) {s : Nat} (hs : s ∈ spots H) : Limp H S V C (D.put (s : Int) (enc ⟨(S.ep : Int), S.rs⟩)) ∧ oneOf (D.put (s : Int) (enc ⟨(S.ep : Int), S.rs⟩)) (s : Int) = some ⟨(S.ep : Int), S.rs⟩ ∧ ∀ i : Int, oneOf D i = some ⟨(S.ep : Int), S.rs⟩ → oneOf (D.put (s : Int) (enc ⟨(S.ep : Int), S.rs⟩)) i = some ⟨(S.ep : Int), S.rs⟩ := by
  have hsame : oneOf (D.put (s : Int) (enc ⟨(S.ep : Int), S.rs⟩)) (s : Int) = some ⟨(S.ep : Int), S.rs⟩ := by unfold oneOf; rw [put_read_same]; exact hf.parse
  have ho : ∀ i : Int, i ≠ (s : Int) → oneOf (D.put (s : Int) (enc ⟨(S.ep : Int), S.rs⟩)) i = oneOf D i := fun i hi => by unfold oneOf; rw [put_read_other D hi]
  have hk : ∀ i : Int, oneOf D i = some ⟨(S.ep : Int), S.rs⟩ → oneOf (D.put (s : Int) (enc ⟨(S.ep : Int), S.rs⟩)) i = some ⟨(S.ep : Int), S.rs⟩ := fun i hi => by
    by_cases e : i = (s : Int)
    · rw [e]; exact hsame
    · rw [ho i e]; exact hi
  refine ⟨⟨h.fit, h.now, fun a a2 aH ha => (h.lame a a2 aH ha).put_far ?_ ?_ _, h.down, h.fuse, fun i l hl => ?_, fun t ht q hq => ?_, fun t ht q hq he => ?_, fun h0 => (h.one h0).imp (hk _) (hk _), fun t ht => (h.rt t ht).put _ _⟩, hsame, hk⟩
  · rcases spots_mem hs with rfl | rfl | rfl | rfl <;> omega
  · rcases spots_mem hs with rfl | rfl | rfl | rfl <;> omega
  · by_cases e : i = (s : Int)
    · rw [e, put_read_same] at hl; cases hl; exact hf.bytes
    · rw [put_read_other D e] at hl; exact h.bytes i l hl
  · by_cases e : (t : Int) = (s : Int)
    · rw [e, hsame] at hq; cases hq; exact Int.le_refl _
    · rw [ho _ e] at hq; exact h.le t ht q hq
  · by_cases e : (t : Int) = (s : Int)
    · rw [e, hsame] at hq; cases hq; rfl
    · rw [ho _ e] at hq; exact h.eq t ht q hq he
/-- the root made whole -/
theorem Limp.whole {H : Nat} {S : St} {V : Int → Option (List Nat)} {C : Nat → List Nat} {D : Dv} (h : Limp H S V C D) (h0 : 0 < S.ep) (hH : H = GeoW.half D.blocks) (h2 : 2 ≤ H) (hf : Fine ⟨(S.ep : Int), S.rs⟩) :
    ∃ F, wholeT D S = (none, F) ∧ Limp H S V C F ∧ F.blocks = D.blocks ∧ F.calls ≤ D.calls + 3 ∧ F.np ≤ D.np := by
  unfold wholeT
  rw [← hH]
  by_cases h3 : copies D H S.ep = 2
  · rw [if_pos h3]
    exact ⟨D, rfl, h, rfl, by omega, Nat.le_refl _⟩
  · rw [if_neg h3, save_on, wall_idle H _ D h.down h.fuse]
    have p1 := (h.putRoot h2 hf h0 (spot_of H S.ep).1).1
    have p2 := (p1.putRoot h2 hf h0 (spot_of H S.ep).2).1
    have e : flushOn (none, puts D H [(S.ep % 2, enc ⟨(S.ep : Int), S.rs⟩)]) = (none, (puts D H [(S.ep % 2, enc ⟨(S.ep : Int), S.rs⟩)]).flush) := by
      show (puts D H [(S.ep % 2, enc ⟨(S.ep : Int), S.rs⟩)]).flushT = _
      obtain ⟨q1, q2, _⟩ := puts_same H [(S.ep % 2, enc ⟨(S.ep : Int), S.rs⟩)] D
      unfold DevG.Dv.flushT
      rw [Dv.tick_zero (by rw [q2]; exact h.fuse), q1, h.down, if_neg (by decide)]
    rw [e]
    exact ⟨_, rfl, p2.flush, rfl, by show D.calls + 1 + 1 + 1 ≤ _; omega, Nat.zero_le _⟩
theorem Stand.blk {H : Nat} {S : St} {V : Int → Option (List Nat)} {D : Dv} (h : Stand H S V D) {a : Nat} (a2 : 2 ≤ a) (aH : a < H) (ha : a ∈ used S.tabs S.at_ H) : ∃ l, Both D H a l ∧ Blk l := by
  obtain ⟨_, h1 | ⟨r, hr, e⟩ | ⟨p, hp, r, hr, e⟩⟩ := mem_used.1 ha
  · omega
  · obtain ⟨t, ht, e2⟩ := List.mem_iff_getElem.1 hr
    have ht7 : t < 7 := by rw [← h.fit.t7]; exact ht
    have hg : S.tabs.getD t (0, 0) = r := by rw [List.getD_eq_getElem?_getD, List.getElem?_eq_getElem ht, ← e2]; rfl
    cases hh : PgP.has S.at_ t with
    | false =>
      have := h.fit.tno t ht7 hh
      rw [hg] at this
      rw [this] at e
      simp at e
      omega
    | true =>
      obtain ⟨b, e3, b2, bH, hb⟩ := h.fit.tb t ht7 hh
      rw [hg] at e3
      rw [e3] at e
      have e' : (b : Int) = (a : Int) := e
      obtain rfl : b = a := by omega
      exact ⟨_, hb, tblk_bytes _ _, tblk_length _ _⟩
  · cases hv : V (p : Int) with
    | none => rw [h.fit.off _ hv] at hr; cases hr
    | some l =>
      obtain ⟨b, e3, b2, bH, hb⟩ := h.fit.pg _ l hv
      rw [e3] at hr
      cases hr
      have e' : (b : Int) = (a : Int) := e
      obtain rfl : b = a := by omega
      have hl := h.fit.len _ l hv
      exact ⟨_, hb, pblk_bytes (by omega) hl.2.2, pblk_length (by omega)⟩
/-- a store that stands, as one that limps -/
theorem Stand.limp {H : Nat} {S : St} {V : Int → Option (List Nat)} {D : Dv} (h : Stand H S V D) : ∃ C, Limp H { S with now := fun _ => none } V C D ∧ ∀ a, 2 ≤ a → a < H → a ∈ used S.tabs S.at_ H → Blk (C a) ∧ Sound D (a : Int) (C a) ∧ Sound D ((a + H : Nat) : Int) (C a) := by
  have hs : ∀ a, 2 ≤ a → a < H → a ∈ used S.tabs S.at_ H → Blk ((D.read (a : Int)).getD []) ∧ Sound D (a : Int) ((D.read (a : Int)).getD []) ∧ Sound D ((a + H : Nat) : Int) ((D.read (a : Int)).getD []) := fun a a2 aH ha => by
    obtain ⟨l, hl, hb⟩ := h.blk a2 aH ha
    rw [hl.1]
    exact ⟨hb, Sound.of h.idle h.fa hl.1, Sound.of h.idle h.fa hl.2⟩
  refine ⟨fun a => (D.read (a : Int)).getD [], ⟨fit_move (fit_none h.fit) fun a l a1 a2 _ hR => ?_, rfl, fun a a2 aH ha => ?_, h.idle.down, h.idle.fuse, h.idle.bytes, h.root.le, h.root.eq, fun h0 => .inl (h.root.two h0).1, fun s _ => .inr (.inl ⟨h.idle.pe _, h.fa _⟩)⟩, hs⟩
  · show (D.read (a : Int)).getD [] = l
    rw [hR.1]; rfl
  · obtain ⟨hb, s1, s2⟩ := hs a a2 aH ha
    exact Lame.of hb s1 s2
/-- a block of zeros that was turned is no root -/
theorem parse_turned_zeros (p t : Nat) : parse (Crc.turned (List.replicate 256 0) (p : Int) t) = none := by
  have hz : List.replicate 256 0 = enc ⟨0, []⟩ := by decide
  cases hp : parse (Crc.turned (List.replicate 256 0) (p : Int) t) with
  | none => rfl
  | some q =>
    exfalso
    obtain ⟨h1, h2⟩ := parse_some hp
    have h3 : half q = half ⟨0, []⟩ := by
      refine halves_eq p fun i hi => ?_
      rw [h2, hz]
      rw [show Crc.turned (enc ⟨0, []⟩) (p : Int) t = Crc.turnK (enc ⟨0, []⟩) (p : Int) t 4 from rfl, Crc.turnK_get]
      cases (enc ⟨0, []⟩)[i]? with
      | none => rfl
      | some c => simp only [Option.map_some]; rw [if_neg hi]
    have h4 : Crc.turned (List.replicate 256 0) (p : Int) t = List.replicate 256 0 := by
      rw [← h2, hz]
      unfold enc
      rw [h3]
    rw [h4, parse_zeros] at hp
    cases hp
end Go.Proofs.YtbjfgdahfpfgdaaGreatDoor.PgW

namespace Go.Proofs.YtbjfgdahfpfgdaaGreatDoor.PgW
open Go Go.RowKit Go.Maps Go.Proofs.YtbjfgdahfpfgdaaGreatDoor.Mem Go.Proofs.YtbjfgdahfpfgdaaGreatDoor.MapsW Go.Proofs.YtbjfgdahfpfgdaaGreatDoor.SeeW Go.Proofs.YtbjfgdahfpfgdaaGreatDoor.DevG Go.Proofs.YtbjfgdahfpfgdaaGreatDoor.PairG Go.Proofs.YtbjfgdahfpfgdaaGreatDoor.RefsW Go.Proofs.YtbjfgdahfpfgdaaGreatDoor.PgP Go.Proofs.YtbjfgdahfpfgdaaGreatDoor.RootP Go.Proofs.YtbjfgdahfpfgdaaGreatDoor.RootW
set_option linter.unusedVariables false
set_option maxRecDepth 100000

theorem nz_w (x : Nat) (w : World) : Calls Tryz.prog 163 #[.int .u8 (x : Int)] w fun e w' => e = .returned (.bool (decide (x ≠ 0))) ∧ w' = w := by
  by_cases h : x = 0
  · subst h
    have h1 : ((((0 : Nat) : Int)) != 0) = false := by decide
    go_enter Tryz.func163, Tryz.ntmps163
    go_wp2
    go_ret
    exact ⟨rfl, rfl⟩
  · have h1 : ((x : Int) != 0) = true := by rw [bne_iff_ne]; omega
    rw [decide_eq_true h]
    clear h
    go_enter Tryz.func163, Tryz.ntmps163
    go_wp2
    go_ret
    exact ⟨rfl, rfl⟩
theorem nz_take_succ {rs : List Nat} {k : Nat} (h : k < rs.length) (f : Nat → Bool) : (rs.take (k + 1)).any f = ((rs.take k).any f || f rs[k]) := by
  rw [List.take_succ_eq_append_getElem h, List.any_append]; simp
def nzB (x : Nat) : Bool := decide (x ≠ 0)
set_option maxHeartbeats 800000 in
theorem nzIndex_w (a : Option Addr) (n cap : Nat) (rs : List Nat) (w : World) (hl : Nums .u8 w a n cap rs) :
    Calls Tryz.prog 171 #[.slice a n cap, .func (.func 163) #[] #[]] w fun e w' => (∃ r : Int, e = .returned (.int .i64 r) ∧ decide (0 ≤ r) = rs.any nzB) ∧ Below w.heap.size w w' := by
  have HL := hid hl.len
  obtain ⟨c1, c2⟩ := hl.bound
  go_enter Tryz.func171, Tryz.ntmps171
  go_wp2_with fail
  go_loopw [8] (fun i wr => ∃ k : Nat, k ≤ n ∧ i = .int .i64 k ∧ (rs.take k).any nzB = false ∧ Below w.heap.size w wr) (fun i _ => n - (RowKit.intOf i).toNat)
  case atStart => exact ⟨0, by omega, rfl, by simp, Below.refl _ _⟩
  case round =>
    obtain ⟨k, hk, rfl, hT, hbel⟩ := hrel
    have HT := hid hT
    clear hT
    replace hl := hl.below hbel
    have hsz := hbel.size
    have HB := hid hbel
    clear hbel
    by_cases hlt : k < n
    · have hkl : k < rs.length := by rw [HL.out]; exact hlt
      obtain ⟨b0, o0, rfl, hc0⟩ := hl.at hkl
      have HS := hid (nz_take_succ hkl nzB)
      have HM := hid (List.getElem_mem hkl)
      generalize rs[k] = y at hc0 HS HM
      go_wp2_with fail
      refine (nz_w y _).mono ?_
      rintro e w2 ⟨rfl, hw2⟩
      subst hw2
      by_cases hy : nzB y = true
      · have HY := hid hy
        have hy' : decide (y ≠ 0) = true := hy
        rw [hy']
        clear hy hy' hc0 hl
        go_wp2_with fail
        go_ret
        refine ⟨⟨_, rfl, ?_⟩, HB.out⟩
        rw [List.any_eq_true.2 ⟨y, HM.out, HY.out⟩]
        simp
      · have hy : nzB y = false := by simpa using hy
        have HY := hid hy
        have hy' : decide (y ≠ 0) = false := hy
        rw [hy']
        clear hy hy' hc0 hl
        go_wp2_with fail
        go_roundw
        case rel => exact ⟨k + 1, by omega, by go_num, by rw [HS.out, HT.out, HY.out]; rfl, HB.out⟩
        case measure => simp [RowKit.intOf]; omega
    · obtain rfl : k = n := by omega
      clear hl
      go_wp2_with fail
      go_ret
      refine ⟨⟨_, rfl, ?_⟩, HB.out⟩
      have h1 := HT.out
      rw [List.take_of_length_le (by rw [HL.out]; omega)] at h1
      rw [h1]
      decide
theorem nzContains_w (a : Option Addr) (n cap : Nat) (rs : List Nat) (w : World) (hl : Nums .u8 w a n cap rs) :
    Calls Tryz.prog 162 #[.slice a n cap, .func (.func 163) #[] #[]] w fun e w' => e = .returned (.bool (rs.any nzB)) ∧ Below w.heap.size w w' := by
  have ci := nzIndex_w a n cap rs w hl
  clear hl
  go_enter Tryz.func162, Tryz.ntmps162
  go_wp2_with fail
  refine ci.mono ?_
  rintro e w2 ⟨⟨r, rfl, hr⟩, hb⟩
  have HB := hid hb
  have HR := hid hr
  clear hr hb ci
  go_wp2_with fail
  go_ret
  exact ⟨ret_bool HR.out, HB.out⟩
def allZ (l : List Nat) : Bool := !(l.any nzB)
theorem allZ_false {l : List Nat} (h : ∃ c ∈ l, c ≠ 0) : allZ l = false := by
  obtain ⟨c, hc, h0⟩ := h
  unfold allZ
  rw [List.any_eq_true.2 ⟨c, hc, decide_eq_true h0⟩]
  rfl
theorem nothing_w (a : Option Addr) (n cap : Nat) (l : List Nat) (w : World) (hl : Nums .u8 w a n cap l) :
    Calls Tryz.prog 138 #[.slice a n cap] w fun e w' => e = .returned (.bool (allZ l)) ∧ Below w.heap.size w w' := by
  have ci := nzContains_w a n cap l w hl
  unfold allZ
  generalize l.any nzB = r at *
  clear hl
  go_enter Tryz.func138, Tryz.ntmps138
  go_wp2_with fail
  refine ci.mono ?_
  rintro e w2 ⟨rfl, hb⟩
  have HB := hid hb
  clear hb ci
  go_wp2_with fail
  go_ret
  exact ⟨rfl, HB.out⟩
/-- is a root's block as it has to be? -/
def rightL (ep : Nat) (l : List Nat) (newer : Bool) : Bool := match parse l with
  | some r => if newer then decide (r.ep = (ep : Int)) else true
  | none => if newer then false else allZ l
def rightR (D : Dv) (ep : Nat) (q : Int) (newer : Bool) : Bool := match D.read q with
  | none => false
  | some l => rightL ep l newer
set_option maxHeartbeats 3200000 in
theorem right_w (bs : List Addr) (lo n : Nat) (m : Mp) (D : Dv) (I : Si) (S : St) (q : Int) (newer : Bool) (w : World) (k : SAt w lo n m D I S) (hB : Ev w lo bs seven) (hf : Fits q) (hu : D.down = false) (hi : 0 ≤ q ∧ q < D.blocks) (hbt : ∀ l, D.read q = some l → Crc.Bytes l) :
    Calls Tryz.prog 111 #[ptr I.s, .int .i64 q, .bool newer] w fun e w' => e = .returned (.tuple #[.bool (rightR D S.ep q newer), .nilIface]) ∧ Below w.heap.size w w' := by
  have hr := read_up bs I.d lo n m D q w k.pr.dev (hB.sub (by decide)) hf hu hi
  obtain ⟨aI, haI, hAI⟩ := hB.get 6 _ (by decide) rfl
  have c0 := k.c.1
  have c2 := k.c.2.2.1
  have HB := hid hB
  have hsl := k.slt
  clear k hB
  unfold rightR
  cases hD : D.read q with
  | some l =>
    rw [hD] at hr
    have hb := hbt l hD
    show Calls _ _ _ w fun e w' => e = .returned (.tuple #[.bool (rightL S.ep l newer), .nilIface]) ∧ Below w.heap.size w w'
    go_enter Tryz.func111, Tryz.ntmps111
    go_wp2_with fail
    refine hr.mono ?_
    rintro e w1 ⟨⟨g, cap, rfl, hn, hg⟩, hb1⟩
    have hA1 := (hAI.below hb1).1
    have he := fun w => run_eql_iface_nil_left (P := Tryz.prog) (w := w) Err.tp (.pointer (some aI)) Tryz.underlying33
    have hB1 := HB.out.below hb1
    have HB1 := hid hb1
    replace c2 := kept hb1 c2
    have z1 := hb1.size
    have hng := hn
    clear hr hAI hb1 c0
    go_wp2_with fail
    refine (read_w' bs lo _ 256 cap l w1 hn hb (hB1.sub (by decide))).mono ?_
    rintro e w2 ⟨hR, hb2⟩
    have B2 := HB1.out.trans (hb2.mono z1)
    have HB2 := hid B2
    have hn2 := hn.below hb2
    replace c2 := kept hb2 c2
    have z2 := B2.size
    cases hp : parse l with
    | none =>
      have HP := hid hp
      rw [hp] at hR
      simp only at hR
      subst hR
      have bz := B2.alloc z2 (.cells #[.int .i64 0, .slice none 0 0] 89)
      have HZ := hid bz
      cases newer with
      | true =>
        have e1 : rightL S.ep l true = false := by unfold rightL; rw [HP.out]; rfl
        have E1 := hid e1
        clear e1 hp hn hg hb hb2 B2 hB1 bz hn2 hng
        go_wp2_with fail
        go_quiet (fail)
        have hbz := below_drewN HZ.out
        go_wp2
        exact bodyPost_ret (v := .tuple #[.bool false, .nilIface]) (by simp [results, Tryz.results111, go_sem]) rfl ⟨by rw [E1.out], hbz _⟩
      | false =>
        have e1 : rightL S.ep l false = allZ l := by unfold rightL; rw [HP.out]; rfl
        have E1 := hid e1
        have hno := nothing_w (some ⟨g, 0, none⟩) 256 cap l _ (hn2.below ((Below.refl _ w2).alloc (Nat.le_refl _) (.cells #[.int .i64 0, .slice none 0 0] 89)))
        clear e1 hp hn hg hb hb2 B2 hB1 bz hn2 hng
        go_wp2_with fail
        refine hno.mono ?_
        rintro e w3 ⟨rfl, hb3⟩
        have HB3 := hid (HZ.out.trans (hb3.mono (by simp; omega)))
        clear hno hb3
        go_wp2
        exact bodyPost_ret (v := .tuple #[.bool (allZ l), .nilIface]) (by simp [results, Tryz.results111, go_sem]) rfl ⟨by rw [E1.out], HB3.out⟩
    | some r =>
      have HP := hid hp
      rw [hp] at hR
      obtain ⟨a, c, rfl, hR, hfr⟩ := hR
      have bz := B2.alloc z2 (.cells #[.int .i64 r.ep, .slice a r.rs.length c] 89)
      have HZ := hid bz
      obtain ⟨x0, x1, y0, y1⟩ := blk_c (heap_alloc_new w2 (.cells #[.int .i64 r.ep, .slice a r.rs.length c] 89))
      cases newer with
      | true =>
        have e1 : rightL S.ep l true = (r.ep == (S.ep : Int)) := by unfold rightL; rw [HP.out]; simp only [if_true]; rw [Bool.eq_iff_iff, decide_eq_true_eq, beq_iff_eq]
        have E1 := hid e1
        have c2' := kept ((Below.refl _ w2).alloc (Nat.le_refl _) (.cells #[.int .i64 r.ep, .slice a r.rs.length c] 89)) c2
        clear e1 hp hn hg hb hb2 B2 hB1 bz hn2 hng hR hfr
        go_wp2_with fail
        go_quiet (fail)
        have hbz := below_drewN HZ.out
        go_wp2
        exact bodyPost_ret (v := .tuple #[.bool (r.ep == (S.ep : Int)), .nilIface]) (by simp [results, Tryz.results111, go_sem]) rfl ⟨by rw [E1.out], hbz _⟩
      | false =>
        have e1 : rightL S.ep l false = true := by unfold rightL; rw [HP.out]; rfl
        have E1 := hid e1
        clear e1 hp hn hg hb hb2 B2 hB1 bz hn2 hng hR hfr
        go_wp2
        exact bodyPost_ret (v := .tuple #[.bool true, .nilIface]) (by simp [results, Tryz.results111, go_sem]) rfl ⟨by rw [E1.out], HZ.out⟩
  | none =>
    rw [hD] at hr
    show Calls _ _ _ w fun e w' => e = .returned (.tuple #[.bool false, .nilIface]) ∧ Below w.heap.size w w'
    go_enter Tryz.func111, Tryz.ntmps111
    go_wp2_with fail
    refine hr.mono ?_
    rintro e w1 ⟨⟨aI', haI', rfl⟩, hb1⟩
    rw [haI] at haI'
    cases haI'
    have hA1 := (hAI.below hb1).1
    have HB1 := hid hb1
    obtain ⟨i1, hi1, hi2⟩ : ∃ i, Tryz.prog.info? Err.tp = some i ∧ i.comparable = true := ⟨_, rfl, by kernel_rfl⟩
    obtain ⟨j, hj⟩ : ∃ j, Tryz.prog.info? 263 = some j := ⟨_, rfl⟩
    have he := fun w => run_eql_iface_ptr_same (P := Tryz.prog) (w := w) aI Tryz.underlying33 Tryz.underlying247 hi1 hi2 hj
    clear hr hAI hb1
    go_wp2
    exact bodyPost_ret (v := .tuple #[.bool false, .nilIface]) (by simp [results, Tryz.results111, go_sem]) rfl ⟨rfl, HB1.out⟩
end Go.Proofs.YtbjfgdahfpfgdaaGreatDoor.PgW

namespace Go.Proofs.YtbjfgdahfpfgdaaGreatDoor.PgW
open Go Go.RowKit Go.Maps Go.Proofs.YtbjfgdahfpfgdaaGreatDoor.Mem Go.Proofs.YtbjfgdahfpfgdaaGreatDoor.MapsW Go.Proofs.YtbjfgdahfpfgdaaGreatDoor.SeeW Go.Proofs.YtbjfgdahfpfgdaaGreatDoor.DevG Go.Proofs.YtbjfgdahfpfgdaaGreatDoor.PairG Go.Proofs.YtbjfgdahfpfgdaaGreatDoor.PgP Go.Proofs.YtbjfgdahfpfgdaaGreatDoor.RootP Go.Proofs.YtbjfgdahfpfgdaaGreatDoor.RootW
set_option linter.unusedVariables false
set_option maxRecDepth 100000

/-- a block that a flush leaves without a fault -/
def Clean (D : Dv) (q : Int) : Prop := (D.pe q).isSome = true ∨ D.fa q = false
theorem Clean.put_same (D : Dv) (q : Int) (l : List Nat) : Clean (D.put q l) q := .inl (by show (upd D.pe q (some l) q).isSome = true; rw [upd_same]; rfl)
theorem Clean.put {D : Dv} {q : Int} (h : Clean D q) (j : Int) (l : List Nat) : Clean (D.put j l) q := by
  by_cases e : q = j
  · subst e; exact Clean.put_same D q l
  · refine h.imp (fun h => ?_) id
    show (upd D.pe j (some l) q).isSome = true
    rw [upd_other _ _ e]; exact h
theorem Clean.flush {D : Dv} {q : Int} (h : Clean D q) : D.flush.fa q = false := by
  show (if (D.pe q).isSome then false else D.fa q) = false
  rcases h with h | h
  · rw [if_pos h]
  · rw [h]; split <;> rfl
theorem cp_clean {D : Dv} {q : Int} {P : List Nat} (h : Cp D q P) (hr : D.read q = some P) : Clean D q := by
  rcases h with h | ⟨h1, h2, h3, h4⟩ | ⟨h1, h2, h3⟩
  · exact .inl (by rw [h]; rfl)
  · exact .inr h2
  · exact absurd rfl (h3 P hr)
/-- a pair of which no copy is faulted any more -/
structure Healed (H : Nat) (S : St) (D : Dv) (a : Nat) : Prop where
  c1 : Clean D (a : Int)
  c2 : Clean D ((a + H : Nat) : Int)
  rt : a = S.ep % 2 → oneOf D (a : Int) = some ⟨(S.ep : Int), S.rs⟩ ∧ oneOf D ((a + H : Nat) : Int) = some ⟨(S.ep : Int), S.rs⟩
theorem Healed.put {H : Nat} {S : St} {D : Dv} {a : Nat} (h : Healed H S D a) (q : Int) (l : List Nat) (hk : a = S.ep % 2 → (q ≠ (a : Int) ∧ q ≠ ((a + H : Nat) : Int)) ∨ parse l = some ⟨(S.ep : Int), S.rs⟩) : Healed H S (D.put q l) a := by
  refine ⟨h.c1.put _ _, h.c2.put _ _, fun e => ?_⟩
  have ho : ∀ i : Int, (q ≠ i) ∨ parse l = some ⟨(S.ep : Int), S.rs⟩ → oneOf D i = some ⟨(S.ep : Int), S.rs⟩ → oneOf (D.put q l) i = some ⟨(S.ep : Int), S.rs⟩ := fun i hq hi => by
    unfold oneOf at *
    by_cases e2 : i = q
    · subst e2
      rcases hq with hq | hq
      · exact absurd rfl hq
      · rw [put_read_same]; exact hq
    · rw [put_read_other D e2]; exact hi
  obtain ⟨r1, r2⟩ := h.rt e
  exact ⟨ho _ ((hk e).imp (·.1) id) r1, ho _ ((hk e).imp (·.2) id) r2⟩
/-- a pair is mended -/
structure Mends (H : Nat) (S : St) (V : Int → Option (List Nat)) (C : Nat → List Nat) (D D' : Dv) (b : Nat) : Prop where
  limp : Limp H S V C D'
  healed : Healed H S D' b
  kept : ∀ a, Healed H S D a → Healed H S D' a
  blocks : D'.blocks = D.blocks
  calls : D'.calls ≤ D.calls + 2
  np : D'.np ≤ D.np + 2
theorem Limp.mend {H : Nat} {S : St} {V : Int → Option (List Nat)} {C : Nat → List Nat} {D : Dv} (h : Limp H S V C D) {b : Nat} (b2 : 2 ≤ b) (bH : b < H) (hb : b ∈ used S.tabs S.at_ H) (c : Nat) :
    ∃ k D' c', mendP D H c b (Crc.sum (C b)) = (some k, D', c') ∧ k ≤ 1 ∧ c' ≤ c + 1 ∧ Mends H S V C D D' b := by
  have hl := h.lame b b2 bH hb
  obtain ⟨k, D', c', e, hc, hD, r1, r2⟩ := hl.mendP c
  have hk1 : k ≤ 1 := by
    unfold mendP at e
    split at e <;> cases e <;> omega
  have hm : Limp H S V C D' ∧ (∀ a, Healed H S D a → Healed H S D' a) ∧ D'.blocks = D.blocks ∧ D'.calls ≤ D.calls + 2 ∧ D'.np ≤ D.np + 2 := by
    have hput : ∀ q : Nat, (q = b ∨ q = b + H) → Limp H S V C (D.put (q : Int) (C b)) ∧ (∀ a, Healed H S D a → Healed H S (D.put (q : Int) (C b)) a) ∧ (D.put (q : Int) (C b)).blocks = D.blocks ∧ (D.put (q : Int) (C b)).calls ≤ D.calls + 2 ∧ (D.put (q : Int) (C b)).np ≤ D.np + 2 := fun q hq => by
      refine ⟨h.put b2 bH hb q hq, fun a ha => ha.put _ _ fun e => .inl (by omega), rfl, by show D.calls + 1 ≤ _; omega, ?_⟩
      have := put_np D (q : Int) (C b)
      omega
    rcases hD with rfl | rfl | rfl
    · exact ⟨h, fun _ ha => ha, rfl, by omega, by omega⟩
    · exact hput b (.inl rfl)
    · exact hput (b + H) (.inr rfl)
  obtain ⟨m1, m2, m3, m4, m5⟩ := hm
  have hl' := m1.lame b b2 bH hb
  exact ⟨k, D', c', e, hk1, hc, m1, ⟨cp_clean hl'.c1 r1, cp_clean hl'.c2 r2, fun e => by omega⟩, m2, m3, m4, m5⟩
/-- which blocks of a root are not as they have to be -/
def bads (D : Dv) (S : St) (H i : Nat) : List Nat := [i, i + H].filter fun q => !(rightR D S.ep (q : Int) (decide (S.ep % 2 = i)))
/-- what healing a root does -/
def healR (D : Dv) (S : St) (l : List Nat) : Dv := l.foldl (fun (D : Dv) (q : Nat) => D.put (q : Int) (enc ⟨(S.ep : Int), S.rs⟩)) D
theorem rightR_newer {H : Nat} {S : St} {V : Int → Option (List Nat)} {C : Nat → List Nat} {D : Dv} (h : Limp H S V C D) {s : Nat} (hs : s ∈ spots H) : rightR D S.ep (s : Int) true = true ↔ oneOf D (s : Int) = some ⟨(S.ep : Int), S.rs⟩ := by
  unfold rightR
  constructor
  · intro hr
    cases hD : D.read (s : Int) with
    | none => rw [hD] at hr; cases hr
    | some l =>
      rw [hD] at hr
      change rightL S.ep l true = true at hr
      unfold rightL at hr
      cases hp : parse l with
      | none => rw [hp] at hr; cases hr
      | some r =>
        rw [hp] at hr
        have he : r.ep = (S.ep : Int) := of_decide_eq_true hr
        have ho : oneOf D (s : Int) = some r := by unfold oneOf; rw [hD]; exact hp
        rw [ho, h.eq s hs r ho he]
  · intro ho
    unfold oneOf at ho
    cases hD : D.read (s : Int) with
    | none => rw [hD] at ho; cases ho
    | some l =>
      rw [hD] at ho
      have hp : parse l = some ⟨(S.ep : Int), S.rs⟩ := ho
      show rightL S.ep l true = true
      unfold rightL
      rw [hp]
      exact decide_eq_true rfl
theorem right_clean {D : Dv} {q : Int} (h : Rs D q) {ep : Nat} {nw : Bool} (hr : rightR D ep q nw = true) : Clean D q := by
  rcases h with h | ⟨h1, h2⟩ | ⟨h1, h2, h3⟩
  · exact .inl h
  · exact .inr h2
  · exfalso
    unfold rightR at hr
    cases hD : D.read q with
    | none => rw [hD] at hr; cases hr
    | some l =>
      rw [hD] at hr
      change rightL ep l nw = true at hr
      obtain ⟨g1, g2⟩ := h3 l hD
      unfold rightL at hr
      rw [g1] at hr
      cases nw with
      | true => cases hr
      | false =>
        rw [allZ_false g2] at hr
        cases hr
theorem spot_i {H i : Nat} (hi : i < 2) : i ∈ spots H ∧ i + H ∈ spots H := by
  have := spot_of H i
  rw [Nat.mod_eq_of_lt hi] at this
  exact this
theorem bads_newer {H : Nat} {S : St} {V : Int → Option (List Nat)} {C : Nat → List Nat} {D : Dv} (h : Limp H S V C D) (h0 : 0 < S.ep) {i : Nat} (hi : S.ep % 2 = i) : (bads D S H i).length ≠ 2 := by
  subst hi
  unfold bads
  rw [decide_eq_true rfl]
  obtain ⟨s1, s2⟩ := spot_of H S.ep
  rcases h.one h0 with h1 | h1
  · have := (rightR_newer h s1).2 h1
    rw [List.filter_cons, this]
    simp only [Bool.not_true, Bool.false_eq_true, if_false]
    have := List.length_filter_le (fun q : Nat => !(rightR D S.ep (q : Int) true)) [S.ep % 2 + H]
    simp only [List.length_cons, List.length_nil] at this
    omega
  · have h2 := (rightR_newer h s2).2 h1
    rw [List.filter_cons]
    have h3 : [S.ep % 2 + H].filter (fun q : Nat => !(rightR D S.ep (q : Int) true)) = [] := by
      rw [List.filter_cons, h2]; rfl
    rw [h3]
    split <;> simp
theorem Limp.healR {H : Nat} {S : St} {V : Int → Option (List Nat)} {C : Nat → List Nat} {D : Dv} (h : Limp H S V C D) (h2 : 2 ≤ H) (hf : Fine ⟨(S.ep : Int), S.rs⟩) (h0 : 0 < S.ep) {i : Nat} (hi : i < 2) : Mends H S V C D (PgW.healR D S (bads D S H i)) i := by
  obtain ⟨s1, s2⟩ := spot_i (H := H) hi
  have hP := hf.parse
  -- what is put stays right
  have key : ∀ (l : List Nat) (E : Dv), (∀ q ∈ l, q ∈ spots H) → Limp H S V C E → Limp H S V C (PgW.healR E S l) ∧ (∀ a, Healed H S E a → Healed H S (PgW.healR E S l) a) ∧ (PgW.healR E S l).blocks = E.blocks ∧ (PgW.healR E S l).calls ≤ E.calls + l.length ∧ (PgW.healR E S l).np ≤ E.np + l.length ∧
      (∀ q ∈ l, Clean (PgW.healR E S l) (q : Int) ∧ oneOf (PgW.healR E S l) (q : Int) = some ⟨(S.ep : Int), S.rs⟩) ∧ (∀ q : Int, Clean E q → Clean (PgW.healR E S l) q) ∧ ∀ q : Int, oneOf E q = some ⟨(S.ep : Int), S.rs⟩ → oneOf (PgW.healR E S l) q = some ⟨(S.ep : Int), S.rs⟩ := by
    intro l
    induction l with
    | nil => exact fun E _ hE => ⟨hE, fun _ ha => ha, rfl, Nat.le_refl _, Nat.le_refl _, fun q hq => (by cases hq), fun _ hq => hq, fun _ hq => hq⟩
    | cons q l ih =>
      intro E hs hE
      obtain ⟨p1, p2, p3⟩ := hE.putRoot h2 hf h0 (hs q (by simp))
      obtain ⟨i1, i2, i3, i4, i5, i6, i7, i8⟩ := ih (E.put (q : Int) (enc ⟨(S.ep : Int), S.rs⟩)) (fun x hx => hs x (by simp [hx])) p1
      have e : PgW.healR E S (q :: l) = PgW.healR (E.put (q : Int) (enc ⟨(S.ep : Int), S.rs⟩)) S l := rfl
      rw [e]
      have hn := put_np E (q : Int) (enc ⟨(S.ep : Int), S.rs⟩)
      have hcl : (E.put (q : Int) (enc ⟨(S.ep : Int), S.rs⟩)).calls = E.calls + 1 := rfl
      refine ⟨i1, fun a ha => i2 a (ha.put _ _ fun _ => .inr hP), i3, by rw [List.length_cons]; omega, by rw [List.length_cons]; omega, fun x hx => ?_, fun x hx => i7 x (hx.put _ _), fun x hx => i8 x (p3 x hx)⟩
      rcases List.mem_cons.1 hx with rfl | hx
      · exact ⟨i7 _ (Clean.put_same _ _ _), i8 _ p2⟩
      · exact i6 x hx
  have hsub : ∀ q ∈ bads D S H i, q ∈ spots H := fun q hq => by
    have := (List.mem_filter.1 hq).1
    simp only [List.mem_cons, List.not_mem_nil, or_false] at this
    rcases this with rfl | rfl
    · exact s1
    · exact s2
  have hlen : (bads D S H i).length ≤ 2 := by
    have := List.length_filter_le (fun q : Nat => !(rightR D S.ep (q : Int) (decide (S.ep % 2 = i)))) [i, i + H]
    exact this
  obtain ⟨k1, k2, k3, k4, k5, k6, k7, k8⟩ := key (bads D S H i) D hsub h
  have hc : ∀ q : Nat, (q = i ∨ q = i + H) → Clean (PgW.healR D S (bads D S H i)) (q : Int) ∧ (i = S.ep % 2 → oneOf (PgW.healR D S (bads D S H i)) (q : Int) = some ⟨(S.ep : Int), S.rs⟩) := fun q hq => by
    have hqs : q ∈ spots H := by rcases hq with rfl | rfl; exact s1; exact s2
    by_cases hb : q ∈ bads D S H i
    · exact ⟨(k6 q hb).1, fun _ => (k6 q hb).2⟩
    · have hr : rightR D S.ep (q : Int) (decide (S.ep % 2 = i)) = true := by
        cases hrr : rightR D S.ep (q : Int) (decide (S.ep % 2 = i)) with
        | true => rfl
        | false => exact absurd (List.mem_filter.2 ⟨by simpa using hq, by rw [hrr]; rfl⟩) hb
      refine ⟨k7 _ (right_clean (h.rt q hqs) hr), fun e => k8 _ ?_⟩
      rw [decide_eq_true e.symm] at hr
      exact (rightR_newer h hqs).1 hr
  exact ⟨k1, ⟨(hc i (.inl rfl)).1, (hc (i + H) (.inr rfl)).1, fun e => ⟨(hc i (.inl rfl)).2 e, (hc (i + H) (.inr rfl)).2 e⟩⟩, k2, k3, by omega, by omega⟩
end Go.Proofs.YtbjfgdahfpfgdaaGreatDoor.PgW
