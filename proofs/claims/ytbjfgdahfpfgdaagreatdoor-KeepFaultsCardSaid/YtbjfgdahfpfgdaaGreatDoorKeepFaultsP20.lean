/- Plain facts: a commit cut short, an Open cut short, and their crashes; The calls of a law whose power goes: a store armed, a device that fell, one that is opened; The calls of a law whose power goes: Commit over an armed device, Open behind a crash; A slice of structs whose fields are one cell each, opened at every index and field; A store on a new device; the chapter's examples; The law's model of a store, in memory; The law's model and a store: what they have in common; A page read where its first copy is right; The walk of breviaryref.SameInts; The law's model beside a store: what they are together; what the law tells both that is refused; What a store is told, in memory; which of it is light; The walk of the law's told: a page is written; The walk of the law's told: a page is dropped; The walk of the law's told: what is refused; The law's model: an array of it laid over another one; The walk of the law's told: a commit; The walk of the law's told: all else: taken back; The law's told, whatever it tells; What lies beside a store whose power goes: the law's models. -/
import Derived.Test.YtbjfgdahfpfgdaaGreatDoorKeepFaultsP19
import Derived.Test.YtbjfgdahfpfgdaaGreatDoorKeepFaultsP1
import Derived.Deep.Slices
import Derived.ChangeSame
import Derived.Test.YtbjfgdahfpfgdaaGreatDoorKeepFaultsP18
import Derived.Lib.SmallJoins
import Derived.Test.YtbjfgdahfpfgdaaGreatDoorKeepFaultsP14
import Derived.Test.YtbjfgdahfpfgdaaGreatDoorKeepFaultsP13
import Derived.Deep.RegionHeld3
import Derived.Test.YtbjfgdahfpfgdaaGreatDoorKeepFaultsP5
import Derived.Test.YtbjfgdahfpfgdaaGreatDoorKeepFaultsP4
import Derived.ChangeSlices
import Derived.Deep.MidRow
namespace Go.Proofs.YtbjfgdahfpfgdaaGreatDoor.PgW
open Go Go.RowKit Go.Maps Go.Proofs.YtbjfgdahfpfgdaaGreatDoor.Mem Go.Proofs.YtbjfgdahfpfgdaaGreatDoor.RootP Go.Proofs.YtbjfgdahfpfgdaaGreatDoor.MapsW Go.Proofs.YtbjfgdahfpfgdaaGreatDoor.PgP Go.Proofs.YtbjfgdahfpfgdaaGreatDoor.DevG Go.Proofs.YtbjfgdahfpfgdaaGreatDoor.RootW Go.Proofs.YtbjfgdahfpfgdaaGreatDoor.PairG
set_option linter.unusedVariables false
set_option maxRecDepth 100000

/-- a commit that falls, or does not -/
theorem Stand.falls {H : Nat} {S : St} {V : Int → Option (List Nat)} {D : Dv} {x : Lay} (h : Stand H S V D) (hH : H = GeoW.half D.blocks) (h2 : 2 ≤ H) (hep : S.ep < 1000000) (h0 : cnt S.now ≠ 0) (hx : laid S H = some x) (hf : fits x H = true) (k : Nat) :
    (∃ D' f, commitT S { D with fuse := k } H = (none, behind S x, { D' with fuse := f }) ∧ f ≤ k ∧ Stand H (behind S x) (view S.now V) D' ∧ D'.blocks = D.blocks ∧ D'.calls ≤ D.calls + 2 * (cnt S.now + 7) + 4) ∨
    (∃ E, commitT S { D with fuse := k } H = (some 5, S, E) ∧ 0 < k ∧ E.down = true ∧ E.blocks = D.blocks ∧ E.np ≤ 2 * (cnt S.now + 7) + 2 ∧ E.calls ≤ D.calls + 2 * (cnt S.now + 7) + 4 ∧
      ∀ ks zs, Keys E.pe ks → Semi H { S with now := fun _ => none } V (E.crash ks zs) ∨ Semi H (behind S x) (view S.now V) (E.crash ks zs)) := by
  obtain ⟨w1, w2, w3⟩ := Fit.writes h.fit h.now hx
  have hF := flushed_puts h.idle w1 (fun b hb => (w2 b hb).1) (fun b hb => (w2 b hb).2.2.2.1)
  have h512 : H ≤ 512 := by rw [hH]; exact GeoW.half_512 _
  have hnear : ∀ {F : Dv}, F.Idle → (∀ i, F.fa i = false) → (∀ i : Int, (∀ b ∈ writes S x, i ≠ (b.1 : Int) ∧ i ≠ ((b.1 + H : Nat) : Int)) → F.read i = D.read i) → Stand H S V F := fun {F} hFi hfa hFr => by
    refine h.near hFi hfa (fun s hs => hFr _ fun b hb => ?_) fun a a1 a2 a3 => ⟨hFr _ fun b hb => ?_, hFr _ fun b hb => ?_⟩
    · have h1 := (w2 b hb).2.1
      have h3 := (w2 b hb).1
      rcases spots_mem hs with rfl | rfl | rfl | rfl <;> constructor <;> omega
    · have hne : a ≠ b.1 := fun e => (w2 b hb).2.2.1 (by rw [← e]; exact a3)
      have h3 := (w2 b hb).1
      constructor <;> omega
    · have hne : a ≠ b.1 := fun e => (w2 b hb).2.2.1 (by rw [← e]; exact a3)
      have h3 := (w2 b hb).1
      constructor <;> omega
  have hFl := hnear hF.idle (puts_fa h.fa H (writes S x)) fun i hi => hF.other i hi
  have hbe := h.fit.behind (R' := Both (puts D H (writes S x)).flush H) h.now hx (fun a l ha1 ha2 ha3 hR => ?_) (fun b hb => hF.mem b hb)
  case refine_1 =>
    have hne : ∀ b ∈ writes S x, a ≠ b.1 := fun b hb e => (w2 b hb).2.2.1 (by rw [← e]; exact ha3)
    constructor
    · rw [hF.other _ fun b hb => ⟨fun e => hne b hb (by omega), fun e => by omega⟩]; exact hR.1
    · rw [hF.other _ fun b hb => ⟨fun e => by have := (w2 b hb).1; omega, fun e => hne b hb (by omega)⟩]; exact hR.2
  have hfine : Fine ⟨((S.ep + 1 : Nat) : Int), (behind S x).tabs⟩ := Fit.fine hbe (by omega) (e := S.ep + 1) (by omega) (by omega)
  have hcm : ∀ (D0 : Dv) r, Dv.commit D0 H (S.ep + 1) (writes S x) (behind S x).tabs = r → commitT S D0 H = (match r with | (none, D') => (none, behind S x, D') | (some q, D') => (some q, S, D')) := fun D0 r e => by
    unfold commitT
    rw [if_neg h0, hx]
    simp only [hf, if_true]
    rw [e]
    rcases r with ⟨_ | q, D'⟩ <;> rfl
  rcases commit_f h.idle H (S.ep + 1) k (writes S x) (behind S x).tabs hH hF.idle with ⟨f, g1, g2, g3⟩ | ⟨E, g1, g2, g3⟩
  · left
    obtain ⟨D', e1, e2, e3, e4⟩ := h.commit hH h2 hep h0 hx hf
    have hD : D' = (puts D H (writes S x)).flush.saved H (S.ep + 1) (enc ⟨((S.ep + 1 : Nat) : Int), (behind S x).tabs⟩) := by
      have hz : ({ D with fuse := 0 } : Dv) = D := Dv.same rfl rfl rfl rfl rfl rfl rfl rfl rfl h.idle.fuse.symm rfl
      rcases commit_f h.idle H (S.ep + 1) 0 (writes S x) (behind S x).tabs hH hF.idle with ⟨f', q1, q2, q3⟩ | ⟨E, q1, q2, q3⟩
      · rw [hz] at q1
        have e1' := hcm D _ q1
        rw [e1] at e1'
        have e5 := (Prod.mk.inj (Prod.mk.inj e1').2).2
        rw [e5, q3 rfl]
        exact Dv.same rfl rfl rfl rfl rfl rfl rfl rfl rfl (Dv.saved_idle hF.idle _ _ hfine.bytes).fuse.symm rfl
      · omega
    exact ⟨D', f, by rw [hcm _ _ g1, hD], g2, e2, e3, e4⟩
  · right
    have p := puts_same H (writes S x) D
    rcases g3 with g3 | g3
    · refine ⟨E, by rw [hcm _ _ g1], g2, g3.down, g3.bl, by have := g3.np; have := h.idle.np; omega, by have := g3.cl; omega, fun ks zs hK => .inl ?_⟩
      have hc := g3.crash h.idle (fun i l ⟨b, hb, e, _⟩ => by rw [← e]; exact (w2 b hb).2.2.2.1) (zs := zs) hK
      refine (hnear hc.idle (fun i => hc.fa i (h.fa i)) fun i hi => ?_).semi
      rcases hc.rd i with e | ⟨l, ⟨b, hb, _, e⟩, _⟩
      · exact e
      · rcases e with e | e
        · exact absurd e (hi b hb).1
        · exact absurd e (hi b hb).2
    · refine ⟨E, by rw [hcm _ _ g1], g2, g3.down, g3.bl.trans hF.blocks, by have := g3.np; have := hF.idle.np; omega, by have := g3.cl; have := hF.calls; omega, fun ks zs hK => ?_⟩
      have hc := g3.crash hF.idle (fun i l hp => by rw [hp.1]; exact hfine.bytes) (zs := zs) hK
      generalize E.crash ks zs = F at hc
      have hfaF : ∀ i, F.fa i = false := fun i => hc.fa i (puts_fa h.fa H (writes S x) i)
      have ho : ∀ i : Int, oneOf F i = oneOf (puts D H (writes S x)).flush i ∨ (oneOf F i = some ⟨((S.ep + 1 : Nat) : Int), (behind S x).tabs⟩) := fun i => by
        unfold oneOf
        rcases hc.rd i with e | ⟨l, ⟨rfl, _⟩, e⟩
        · rw [e]; exact .inl rfl
        · rw [e]; exact .inr hfine.parse
      have hfit : Fit H (behind S x) (view S.now V) (Both F H) := fit_move hbe fun a l a1 a2 _ hb => by
        constructor
        · rcases hc.rd (a : Int) with e | ⟨l, ⟨_, e⟩, _⟩
          · rw [e]; exact hb.1
          · omega
        · rcases hc.rd ((a + H : Nat) : Int) with e | ⟨l, ⟨_, e⟩, _⟩
          · rw [e]; exact hb.2
          · omega
      by_cases hn : oneOf F (((S.ep + 1) % 2 : Nat) : Int) = some ⟨((S.ep + 1 : Nat) : Int), (behind S x).tabs⟩ ∨ oneOf F (((S.ep + 1) % 2 + H : Nat) : Int) = some ⟨((S.ep + 1 : Nat) : Int), (behind S x).tabs⟩
      · right
        refine ⟨hfit, rfl, hc.idle, fun s hs q hq => ?_, fun s hs q hq he => ?_, fun _ => hn, fun e => absurd e (Nat.succ_ne_zero _), hfaF, fun s hs => (by
          rcases hc.rd (s : Int) with e | ⟨l, ⟨rfl, _⟩, e⟩
          · exact (hFl.sp s hs).same e
          · exact .inr ⟨_, hfine, e⟩)⟩
        · show q.ep ≤ ((S.ep + 1 : Nat) : Int)
          rcases ho (s : Int) with e | e
          · have := hFl.root.le s hs q (by rw [← e]; exact hq); omega
          · rw [e] at hq; cases hq; exact Int.le_refl _
        · have he' : q.ep = ((S.ep + 1 : Nat) : Int) := he
          rcases ho (s : Int) with e | e
          · have := hFl.root.le s hs q (by rw [← e]; exact hq); omega
          · rw [e] at hq; cases hq; rfl
      · left
        have hrd : ∀ i : Int, F.read i = (puts D H (writes S x)).flush.read i := fun i => by
          rcases hc.rd i with e | ⟨l, ⟨rfl, e⟩, e'⟩
          · exact e
          · refine absurd ?_ hn
            have hp : oneOf F i = some ⟨((S.ep + 1 : Nat) : Int), (behind S x).tabs⟩ := by unfold oneOf; rw [e']; exact hfine.parse
            rcases e with e | e
            · exact .inl (by rw [← e]; exact hp)
            · exact .inr (by rw [← e]; exact hp)
        exact (hFl.near hc.idle hfaF (fun s _ => hrd _) fun a _ _ _ => ⟨hrd _, hrd _⟩).semi
/-- the tables of what stands but for a root's copy, the device armed or not -/
theorem Semi.tabs {H : Nat} {S : St} {V : Int → Option (List Nat)} {D : Dv} (h : Semi H S V D) (k : Nat) : Tabs { D with fuse := k } H S.tabs S.at_ (fun _ => { D with fuse := k }) (fun _ => 0) := by
  refine ⟨rfl, rfl, fun t ht hh => ⟨h.fit.tno t ht hh, rfl, rfl⟩, fun t ht hh => ?_, fun _ _ => h.idle.down, fun _ _ => rfl, fun _ _ => rfl, fun _ _ => Nat.le_add_right _ _, fun _ _ => Nat.le_add_right _ _, fun _ _ => h.idle.bytes, fun _ _ => Nat.zero_le _, rfl⟩
  obtain ⟨a, h1, h2, h3, h4⟩ := h.fit.tb t ht hh
  have h5 : ({ D with fuse := k } : Dv).read (a : Int) = some (tblk S.at_ t) := h4.1
  exact ⟨a, h1, h2, h3, readP_first h5 rfl, .inr h5⟩
/-- the root made whole, or the power gone -/
theorem Semi.whole {H : Nat} {S : St} {V : Int → Option (List Nat)} {D : Dv} (h : Semi H S V D) (h0 : 0 < S.ep) (hH : H = GeoW.half D.blocks) (h2 : 2 ≤ H) (hf : Fine ⟨(S.ep : Int), S.rs⟩) (k : Nat) :
    (∃ F f, wholeT { D with fuse := k } S = (Option.none, { F with fuse := f }) ∧ f ≤ k ∧ (k = 0 → f = 0) ∧ Stand H S V F ∧ F.blocks = D.blocks ∧ F.calls ≤ D.calls + 3) ∨
    (∃ E, wholeT { D with fuse := k } S = (some 5, E) ∧ 0 < k ∧ E.down = true ∧ E.blocks = D.blocks ∧ E.np ≤ 2 ∧ E.calls ≤ D.calls + 3 ∧ ∀ ks zs, Keys E.pe ks → Semi H S V (E.crash ks zs)) := by
  have hc : copies { D with fuse := k } (GeoW.half D.blocks) S.ep = copies D H S.ep := by rw [hH]; rfl
  unfold wholeT
  show (∃ F f, (if copies { D with fuse := k } (GeoW.half D.blocks) S.ep = 2 then _ else _) = _ ∧ _) ∨ (∃ E, (if copies { D with fuse := k } (GeoW.half D.blocks) S.ep = 2 then _ else _) = _ ∧ _)
  rw [hc]
  by_cases h3 : copies D H S.ep = 2
  · rw [if_pos h3]
    exact .inl ⟨D, k, rfl, Nat.le_refl _, id, h.stand fun _ => h.two h3, rfl, by omega⟩
  · rw [if_neg h3]
    show (∃ F f, Dv.save { D with fuse := k } (GeoW.half D.blocks) S.ep _ = _ ∧ _) ∨ (∃ E, Dv.save { D with fuse := k } (GeoW.half D.blocks) S.ep _ = _ ∧ _)
    rw [← hH, save_on]
    rcases wf_on h.idle H k [(S.ep % 2, enc ⟨(S.ep : Int), S.rs⟩)] with ⟨f, q1, q2, q3⟩ | ⟨E, q1, q2, q3⟩
    · rw [q1]
      have hid : (D.saved H S.ep (enc ⟨(S.ep : Int), S.rs⟩)).Idle := Dv.saved_idle h.idle _ _ hf.bytes
      have hrd := Dv.saved_read h.idle H S.ep hf.bytes
      have hone : ∀ i : Int, (i = ((S.ep % 2 : Nat) : Int) ∨ i = ((S.ep % 2 + H : Nat) : Int)) → oneOf (D.saved H S.ep (enc ⟨(S.ep : Int), S.rs⟩)) i = some ⟨(S.ep : Int), S.rs⟩ := fun i hi => by
        unfold oneOf
        rw [hrd, if_pos hi]
        exact hf.parse
      refine .inl ⟨D.saved H S.ep (enc ⟨(S.ep : Int), S.rs⟩), f, rfl, q2, q3, (h.mend h0 h2 hf hid (saved_fa h.fa H _ _) fun i => ?_).stand fun _ => ⟨hone _ (.inl rfl), hone _ (.inr rfl)⟩, (Dv.saved_calls _ _ _ _).2, by rw [(Dv.saved_calls _ _ _ _).1]; omega⟩
      rw [hrd]
      split
      · exact .inr ⟨rfl, by assumption⟩
      · exact .inl rfl
    · rw [q1]
      refine .inr ⟨E, rfl, q2, q3.down, q3.bl, by have h1 := q3.np; have := h.idle.np; rw [List.length_singleton] at h1; omega, by have h1 := q3.cl; rw [List.length_singleton] at h1; omega, fun ks zs hK => ?_⟩
      have hcr := q3.crash h.idle (fun i l ⟨b, hb, e, _⟩ => by rw [List.mem_singleton] at hb; subst hb; rw [← e]; exact hf.bytes) (zs := zs) hK
      refine h.mend h0 h2 hf hcr.idle (fun i => hcr.fa i (h.fa i)) fun i => ?_
      rcases hcr.rd i with e | ⟨l, ⟨b, hb, e1, e2⟩, e3⟩
      · exact .inl e
      · rw [List.mem_singleton] at hb
        subst hb
        rw [← e1] at e3
        exact .inr ⟨e3, e2⟩
end Go.Proofs.YtbjfgdahfpfgdaaGreatDoor.PgW

namespace Go.Proofs.YtbjfgdahfpfgdaaGreatDoor.PgW
open Go Go.RowKit Go.Maps Go.Proofs.YtbjfgdahfpfgdaaGreatDoor.Mem Go.Proofs.YtbjfgdahfpfgdaaGreatDoor.MapsW Go.Proofs.YtbjfgdahfpfgdaaGreatDoor.SeeW Go.Proofs.YtbjfgdahfpfgdaaGreatDoor.DevG Go.Proofs.YtbjfgdahfpfgdaaGreatDoor.PairG Go.Proofs.YtbjfgdahfpfgdaaGreatDoor.RefsW Go.Proofs.YtbjfgdahfpfgdaaGreatDoor.PgP Go.Proofs.YtbjfgdahfpfgdaaGreatDoor.RootP Go.Proofs.YtbjfgdahfpfgdaaGreatDoor.RootW Go.Proofs.YtbjfgdahfpfgdaaGreatDoor.Ints
set_option linter.unusedVariables false
set_option maxRecDepth 100000

theorem fuse_idle {D : Dv} (h : D.Idle) : ({ D with fuse := 0 } : Dv) = D := Dv.same rfl rfl rfl rfl rfl rfl rfl rfl rfl h.fuse.symm rfl
theorem own_p {d p' : Nat} {m : Mp} {x : Nat} (h : x ∈ own d { m with p := p' }) : x ∈ own d m ∨ x = p' := by
  simp only [own, Mp.list, List.mem_cons, List.not_mem_nil, or_false] at h ⊢
  rcases h with h | h | h | h | h | h
  · exact .inl (.inl h)
  · exact .inl (.inr (.inl h))
  · exact .inr h
  · exact .inl (.inr (.inr (.inr (.inl h))))
  · exact .inl (.inr (.inr (.inr (.inr (.inl h)))))
  · exact .inl (.inr (.inr (.inr (.inr (.inr h)))))
theorem at_kp {Y : List Nat} {w w' : World} {lo d n : Nat} {m : Mp} {D : Dv} (h : At w lo d n m D) (out : ∀ y ∈ Y, y < w.heap.size ∧ y ∉ own d m) (ht : Turn (own d m) w w') : Kp Y w w' :=
  ⟨fun y hy => ht.block y (out y hy).1 (out y hy).2, fun a n cap l hl => DevG.nums_turn hl ht fun x hx => h.nou8 x hx⟩
/-- a store over an armed device -/
structure UpF (Y : List Nat) (bs : List Addr) (w : World) (lo b n c : Nat) (s d : Nat) (V N : Int → Option (List Nat)) (ep k : Nat) (m : Mp) (D : Dv) (I : Si) (S : St) : Prop where
  at_ : SAt w lo n m { D with fuse := k } I S
  st : Stand I.H S V D
  hs : I.s = s
  hd : I.d = d
  hH : I.H = GeoW.half b
  bl : D.blocks = b
  b1 : 300 ≤ b
  b2 : b ≤ 6000
  cl : D.calls = c
  ic : I.c ≤ 7
  ev : Ev w lo bs seven
  los : lo ≤ w.heap.size
  now : S.now = N
  ep : S.ep = ep
  out : ∀ y ∈ Y, y < w.heap.size ∧ y ∉ I.all m
def Armed (Y : List Nat) (bs : List Addr) (w : World) (lo b n c : Nat) (s d : Nat) (V N : Int → Option (List Nat)) (ep k : Nat) : Prop := ∃ m D I S, UpF Y bs w lo b n c s d V N ep k m D I S
theorem Store.armed {Y : List Nat} {bs : List Addr} {w : World} {lo b n c : Nat} {s d : Nat} {V N : Int → Option (List Nat)} {ep : Nat} (h : Store Y bs w lo b n c s d V N ep) : Armed Y bs w lo b n c s d V N ep 0 := by
  obtain ⟨m, D, I, S, h⟩ := h
  exact ⟨m, D, I, S, by rw [fuse_idle h.st.idle]; exact h.at_, h.st, h.hs, h.hd, h.hH, h.bl, h.b1, h.b2, h.cl, h.ic, h.ev, h.los, h.now, h.ep, h.out⟩
theorem Armed.store {Y : List Nat} {bs : List Addr} {w : World} {lo b n c : Nat} {s d : Nat} {V N : Int → Option (List Nat)} {ep : Nat} (h : Armed Y bs w lo b n c s d V N ep 0) : Store Y bs w lo b n c s d V N ep := by
  obtain ⟨m, D, I, S, h⟩ := h
  have ha := h.at_
  rw [fuse_idle h.st.idle] at ha
  exact ⟨m, D, I, S, ha, h.st, h.hs, h.hd, h.hH, h.bl, h.b1, h.b2, h.cl, h.ic, h.ev, h.los, h.now, h.ep, h.out⟩
theorem UpF.own_sub {I : Si} {m : Mp} {x : Nat} (hx : x ∈ own I.d m) : x ∈ I.own m := by simp only [List.mem_cons]; exact .inr (.inr (.inr (.inr (List.mem_cons.1 hx))))
/-- whether it fell -/
theorem Armed.down {Y : List Nat} {bs : List Addr} {w : World} {lo b n c : Nat} {s d : Nat} {V N : Int → Option (List Nat)} {ep k : Nat} (h : Armed Y bs w lo b n c s d V N ep k) :
    Calls Tryz.prog 30 #[ptr d] w fun e w' => e = .returned (.bool false) ∧ w = w' := by
  obtain ⟨m, D, I, S, h⟩ := h
  have hd := down_w I.d lo n m { D with fuse := k } w h.at_.pr.dev
  rw [h.hd] at hd
  refine hd.mono ?_
  rintro e w' ⟨rfl, rfl⟩
  refine ⟨?_, rfl⟩
  show Ending.returned (.bool D.down) = _
  rw [h.st.idle.down]
/-- the pages a device has behind a crash -/
def Was (b : Nat) (V : Int → Option (List Nat)) (ep : Nat) (F : Dv) : Prop := ∃ S, Semi (GeoW.half b) S V F ∧ S.ep = ep
/-- a device of which no store is kept -/
structure GoneM (Y : List Nat) (bs : List Addr) (w : World) (lo b n c d : Nat) (t : Bool) (P : Dv → Prop) (m : Mp) (E : Dv) : Prop where
  at_ : At w lo d n m E
  bl : E.blocks = b
  b1 : 300 ≤ b
  b2 : b ≤ 6000
  cl : E.calls ≤ c
  np : E.np ≤ 100
  dn : t = true → E.down = true
  cr : ∀ ks zs, Keys E.pe ks → P (E.crash ks zs)
  ev : Ev w lo bs seven
  los : lo ≤ w.heap.size
  out : ∀ y ∈ Y, y < w.heap.size ∧ y ∉ own d m
def Gone (Y : List Nat) (bs : List Addr) (w : World) (lo b n c d : Nat) (t : Bool) (P : Dv → Prop) : Prop := ∃ m E, GoneM Y bs w lo b n c d t P m E
/-- a device behind a crash, its fuse at k -/
structure AjarM (Y : List Nat) (bs : List Addr) (w : World) (lo b n c d : Nat) (V : Int → Option (List Nat)) (ep k : Nat) (m : Mp) (D : Dv) (S : St) : Prop where
  at_ : At w lo d n m { D with fuse := k }
  sm : Semi (GeoW.half b) S V D
  bl : D.blocks = b
  b1 : 300 ≤ b
  b2 : b ≤ 6000
  cl : D.calls ≤ c
  ev : Ev w lo bs seven
  los : lo ≤ w.heap.size
  ep : S.ep = ep
  out : ∀ y ∈ Y, y < w.heap.size ∧ y ∉ own d m
def Ajar (Y : List Nat) (bs : List Addr) (w : World) (lo b n c d : Nat) (V : Int → Option (List Nat)) (ep k : Nat) : Prop := ∃ m D S, AjarM Y bs w lo b n c d V ep k m D S
theorem Gone.down {Y : List Nat} {bs : List Addr} {w : World} {lo b n c d : Nat} {P : Dv → Prop} (h : Gone Y bs w lo b n c d true P) :
    Calls Tryz.prog 30 #[ptr d] w fun e w' => e = .returned (.bool true) ∧ w = w' := by
  obtain ⟨m, E, h⟩ := h
  refine (down_w d lo n m E w h.at_).mono ?_
  rintro e w' ⟨rfl, rfl⟩
  rw [h.dn rfl]
  exact ⟨rfl, rfl⟩
theorem Gone.crash {Y : List Nat} {bs : List Addr} {w : World} {lo b n c d : Nat} {t : Bool} {P : Dv → Prop} (h : Gone Y bs w lo b n c d t P) (hn : n < 600000) {a : Option Addr} {len cap : Nat} {zs : List Int} (hz : ∀ w', Below lo w w' → Is w' a len cap zs) :
    Calls Tryz.prog 31 #[ptr d, .slice a len cap] w fun e w' => e = .returned (.tuple #[]) ∧ (∃ F, P F ∧ ∀ V ep, Was b V ep F → Ajar Y bs w' lo b (n + 300) c d V ep 0) ∧ Below lo w w' ∧ Kp Y w w' := by
  obtain ⟨m, E, h⟩ := h
  have hX := h.at_.own_lo
  refine (crash_w d lo n m E a len cap zs w h.at_ (fun w' ht => hz w' (ht.below h.los hX)) (by have := h.np; omega) hn).mono ?_
  rintro e w' ⟨rfl, ks, p', hK, hp, k, ht⟩
  have hnp := h.np
  refine ⟨rfl, ⟨E.crash ks zs, h.cr ks zs hK, fun V ep hW => ?_⟩, ht.below h.los hX, at_kp h.at_ h.out ht⟩
  obtain ⟨S, hS, he⟩ := hW
  refine ⟨{ m with p := p' }, E.crash ks zs, S, ?_, hS, h.bl, h.b1, h.b2, h.cl, h.ev.turn ht hX, Nat.le_trans h.los ht.size, he, fun y hy => ⟨Nat.lt_of_lt_of_le (h.out y hy).1 ht.size, fun hm => ?_⟩⟩
  · rw [fuse_idle hS.idle]
    exact k.mono (by omega) (Nat.le_refl _)
  · rcases own_p hm with hm | hm
    · exact (h.out y hy).2 hm
    · have := (h.out y hy).1; omega
end Go.Proofs.YtbjfgdahfpfgdaaGreatDoor.PgW

namespace Go.Proofs.YtbjfgdahfpfgdaaGreatDoor.PgW
open Go Go.RowKit Go.Maps Go.Proofs.YtbjfgdahfpfgdaaGreatDoor.Mem Go.Proofs.YtbjfgdahfpfgdaaGreatDoor.MapsW Go.Proofs.YtbjfgdahfpfgdaaGreatDoor.SeeW Go.Proofs.YtbjfgdahfpfgdaaGreatDoor.DevG Go.Proofs.YtbjfgdahfpfgdaaGreatDoor.PairG Go.Proofs.YtbjfgdahfpfgdaaGreatDoor.RefsW Go.Proofs.YtbjfgdahfpfgdaaGreatDoor.PgP Go.Proofs.YtbjfgdahfpfgdaaGreatDoor.RootP Go.Proofs.YtbjfgdahfpfgdaaGreatDoor.RootW Go.Proofs.YtbjfgdahfpfgdaaGreatDoor.Ints
set_option linter.unusedVariables false
set_option maxRecDepth 100000

theorem UpF.far {Y : List Nat} {bs : List Addr} {w w' : World} {lo b n n' c c' : Nat} {s d : Nat} {V V' N N' : Int → Option (List Nat)} {ep ep' k f : Nat} {m m' : Mp} {D D' : Dv} {I I' : Si} {S S' : St} (h : UpF Y bs w lo b n c s d V N ep k m D I S) {X : List Nat}
    (q : SAt w' lo n' m' { D' with fuse := f } I' S') (hS : Stand I.H S' V' D') (hs : I'.s = I.s) (hd : I'.d = I.d) (hH : I'.H = I.H) (hb : D'.blocks = D.blocks) (hc : D'.calls = c') (hic : I'.c ≤ 7) (ht : Turn X w w') (hX : ∀ x ∈ X, lo ≤ x) (hN : S'.now = N') (he : S'.ep = ep') (hI : ∀ x ∈ I'.all m', x ∈ I.all m ∨ w.heap.size ≤ x) :
    UpF Y bs w' lo b n' c' s d V' N' ep' f m' D' I' S' :=
  ⟨q, by rw [hH]; exact hS, hs.trans h.hs, hd.trans h.hd, hH.trans h.hH, hb.trans h.bl, h.b1, h.b2, hc, hic, h.ev.turn ht hX, Nat.le_trans h.los ht.size, hN, he, fun y hy => ⟨Nat.lt_of_lt_of_le (h.out y hy).1 ht.size, fun hm => by
    rcases hI y hm with hm | hm
    · exact (h.out y hy).2 hm
    · have := (h.out y hy).1; omega⟩⟩
theorem half_two {b : Nat} (h : 300 ≤ b) : 2 ≤ GeoW.half b ∧ GeoW.half b ≤ 512 := by
  have h2 := GeoW.half_512 b
  unfold GeoW.half at h2 ⊢
  omega
/-- nothing to commit -/
theorem Armed.commit0 {Y : List Nat} {bs : List Addr} {w : World} {lo b n c : Nat} {s d : Nat} {V N : Int → Option (List Nat)} {ep k : Nat} (h : Armed Y bs w lo b n c s d V N ep k) (hk : k ≤ 1000000) (hn : n + 8 * (cnt N + 7) + 700 < 690000) (hc : c < 700000) (hep : ep < 1000000) (h0 : cnt N = 0) :
    Calls Tryz.prog 16 #[ptr s] w fun e w' => e = .returned .nilIface ∧ Armed Y bs w' lo b (n + 8 * (cnt N + 7) + 700) c s d V N ep k ∧ Below lo w w' ∧ Kp Y w w' := by
  obtain ⟨m, D, I, S, h⟩ := h
  obtain ⟨hH2, hH5⟩ := half_two h.b1
  rw [← h.hH] at hH2 hH5
  have hnp : ({ D with fuse := k } : Dv).np = 0 := h.st.idle.np
  have hnp2 : D.np = 0 := h.st.idle.np
  have hcl : ({ D with fuse := k } : Dv).calls = c := h.cl
  have hbl : ({ D with fuse := k } : Dv).blocks = b := h.bl
  have hco := commit_w bs lo n m { D with fuse := k } I S w h.at_ h.ev (Fit.sok h.st.fit h.st.now (by omega)) hH2 (by rw [h.now, hnp]; omega) (by omega) (by omega) hk (by rw [h.ep]; omega) (by rw [hbl]; exact h.b1)
  have e1 : commitT S { D with fuse := k } I.H = (none, S, { D with fuse := k }) := by unfold commitT; rw [if_pos (by rw [h.now]; exact h0)]
  rw [e1, h.now, h.hs] at hco
  refine hco.mono ?_
  rintro e w' ⟨v, m', I', hv, rfl, q, hM, ht⟩
  have hv' : v = .nilIface := hv
  subst hv'
  have hX : ∀ x ∈ I.s :: own I.d m, lo ≤ x := fun x hx => by
    rcases List.mem_cons.1 hx with rfl | hx
    · exact h.at_.slo.1
    · exact h.at_.pr.dev.own_lo x hx
  have hXo : ∀ x ∈ I.s :: own I.d m, x ∈ I.own m := fun x hx => by
    rcases List.mem_cons.1 hx with rfl | hx
    · simp
    · exact UpF.own_sub hx
  exact ⟨rfl, ⟨m', D, I', S, h.far (q.mono (by show n + 8 * (cnt N + 7) + 3 * D.np + 700 ≤ _; omega)) h.st hM.s hM.d hM.H rfl h.cl (by rw [hM.c]; exact h.ic) ht hX h.now h.ep hM.all⟩, ht.below h.los hX, ⟨fun y hy => ht.block y (h.out y hy).1 fun hm => (h.out y hy).2 (Si.own_all (hXo y hm)), fun a n cap l hl => DevG.nums_turn hl ht fun x hx => h.at_.nou8 x (hXo x hx)⟩⟩
/-- a commit whose power may go -/
theorem Armed.commit {Y : List Nat} {bs : List Addr} {w : World} {lo b n c : Nat} {s d : Nat} {V N : Int → Option (List Nat)} {ep k : Nat} (h : Armed Y bs w lo b n c s d V N ep k) (hk : k ≤ 1000000) (hn : n + 8 * (cnt N + 7) + 700 < 690000) (hc : c < 700000) (hep : ep < 1000000) (h0 : cnt N ≠ 0) (h40 : cnt N ≤ 40) {q : Nat} (h1 : cnt V ≤ q) (h2 : cnt (view N V) ≤ q) (hq : 2 * q + 18 ≤ GeoW.half b) :
    Calls Tryz.prog 16 #[ptr s] w fun e w' => ((e = .returned .nilIface ∧ ∃ c' f, c' ≤ c + 2 * (cnt N + 7) + 4 ∧ f ≤ k ∧ Armed Y bs w' lo b (n + 8 * (cnt N + 7) + 700) c' s d (view N V) (fun _ => none) (ep + 1) f) ∨
      ((∃ a, bs[5]? = some a ∧ e = .returned (ev a)) ∧ Gone Y bs w' lo b (n + 8 * (cnt N + 7) + 700) (c + 2 * (cnt N + 7) + 4) d true (fun F => Was b V ep F ∨ Was b (view N V) (ep + 1) F))) ∧ Below lo w w' ∧ Kp Y w w' := by
  obtain ⟨m, D, I, S, h⟩ := h
  obtain ⟨hH2, hH5⟩ := half_two h.b1
  rw [← h.hH] at hH2 hH5
  have hnp : ({ D with fuse := k } : Dv).np = 0 := h.st.idle.np
  have hnp2 : D.np = 0 := h.st.idle.np
  have hcl : ({ D with fuse := k } : Dv).calls = c := h.cl
  have hbl : ({ D with fuse := k } : Dv).blocks = b := h.bl
  have hcl2 := h.cl
  have hco := commit_w bs lo n m { D with fuse := k } I S w h.at_ h.ev (Fit.sok h.st.fit h.st.now (by omega)) hH2 (by rw [h.now, hnp]; omega) (by omega) (by omega) hk (by rw [h.ep]; omega) (by rw [hbl]; exact h.b1)
  obtain ⟨x, hx, hf⟩ := h.st.fit.room h.st.now h1 (by rw [h.now]; exact h2) (by rw [h.hH]; exact hq)
  have hX : ∀ x ∈ I.s :: own I.d m, lo ≤ x := fun x hx => by
    rcases List.mem_cons.1 hx with rfl | hx
    · exact h.at_.slo.1
    · exact h.at_.pr.dev.own_lo x hx
  have hXo : ∀ x ∈ I.s :: own I.d m, x ∈ I.own m := fun x hx => by
    rcases List.mem_cons.1 hx with rfl | hx
    · simp
    · exact UpF.own_sub hx
  have hkp : ∀ {w' : World}, Turn (I.s :: own I.d m) w w' → Kp Y w w' := fun ht => ⟨fun y hy => ht.block y (h.out y hy).1 fun hm => (h.out y hy).2 (Si.own_all (hXo y hm)), fun a n cap l hl => DevG.nums_turn hl ht fun x hx => h.at_.nou8 x (hXo x hx)⟩
  rcases h.st.falls (by rw [h.bl]; exact h.hH) hH2 (by rw [h.ep]; omega) (by rw [h.now]; exact h0) hx hf k with ⟨D', f, e1, g1, e2, e3, e4⟩ | ⟨E, e1, g1, g2, g3, g4, g5, g6⟩
  · rw [e1, h.now, h.hs] at hco
    rw [h.now] at e2 e4
    refine hco.mono ?_
    rintro e w' ⟨v, m', I', hv, rfl, q, hM, ht⟩
    have hv' : v = .nilIface := hv
    subst hv'
    exact ⟨.inl ⟨rfl, D'.calls, f, by omega, g1, m', D', I', behind S x, h.far (q.mono (by show n + 8 * (cnt N + 7) + 3 * D.np + 700 ≤ _; omega)) e2 hM.s hM.d hM.H e3 rfl (by rw [hM.c]; exact h.ic) ht hX rfl (by show S.ep + 1 = _; rw [h.ep]) hM.all⟩, ht.below h.los hX, hkp ht⟩
  · rw [e1, h.now, h.hs] at hco
    rw [h.now] at g4 g5 g6
    refine hco.mono ?_
    rintro e w' ⟨v, m', I', hv, rfl, q, hM, ht⟩
    obtain ⟨a, ha, rfl⟩ := hv
    have hdev := q.pr.dev
    rw [hM.d, h.hd] at hdev
    refine ⟨.inr ⟨⟨a, ha, rfl⟩, m', E, hdev.mono (by show n + 8 * (cnt N + 7) + 3 * D.np + 700 ≤ _; omega) (Nat.le_refl _), g3.trans h.bl, h.b1, h.b2, by omega, by omega, fun _ => g2, fun ks zs hK => ?_, h.ev.turn ht hX, Nat.le_trans h.los ht.size, fun y hy => ⟨Nat.lt_of_lt_of_le (h.out y hy).1 ht.size, fun hm => ?_⟩⟩, ht.below h.los hX, hkp ht⟩
    · rcases g6 ks zs hK with g | g
      · exact .inl ⟨{ S with now := fun _ => none }, by rw [← h.hH]; exact g, h.ep⟩
      · exact .inr ⟨_, by rw [← h.hH]; exact g, by show S.ep + 1 = _; rw [h.ep]⟩
    · have hm' : y ∈ I'.own m' := UpF.own_sub (by rw [hM.d, h.hd]; exact hm)
      rcases hM.own y hm' with hm' | hm'
      · exact (h.out y hy).2 (Si.own_all hm')
      · have := (h.out y hy).1; omega
theorem Semi.zero {H : Nat} {S : St} {V : Int → Option (List Nat)} {D : Dv} (h : Semi H S V D) (h0 : S.ep = 0) : Stand H St0 V D ∧ S = St0 := by
  have hs := h.stand fun e => absurd e (by omega)
  have hz := hs.zero h0
  have e : S = St0 := by
    rw [← hz]
    have h1 := h.now
    obtain ⟨ep, rs, tabs, at_, now⟩ := S
    simp only at h1
    subst h1
    rfl
  exact ⟨by rw [← e]; exact hs, e⟩
end Go.Proofs.YtbjfgdahfpfgdaaGreatDoor.PgW

namespace Go.Proofs.YtbjfgdahfpfgdaaGreatDoor.Mem
open Go Go.RowKit Go.ChangeShapes Go.WideShapes Go.Deep
set_option linter.unusedVariables false

section
variable {H : Type} {enc : TypeId × Value → H} {P : Program} {w : World} {base : Nat} {spare : Nat → Bool} {held : Bool}
/-- v is a slice of len structs of the fields fs: each field's cell reads by the field's type -/
def Structs (enc : TypeId × Value → H) (P : Program) (w : World) (base : Nat) (spare : Nat → Bool) (held : Bool) (fs : Array Field) (o : Option Addr) (len cap : Nat) : Prop :=
  (o = none ∧ len = 0 ∧ cap = 0) ∨ ∃ a : Addr, o = some a ∧ base ≤ a.block ∧ len ≤ cap ∧ cap ≤ maxLen ∧
    ∀ i, i < len → ∀ (j : Nat) (f : Field), fs[j]? = some f → ∃ (x : Value) (n : Nat) (y : DataW H × List MemPlace), w.cell? (a.add (i * fs.size + j)) = some x ∧ DataW.trod enc P w base spare held n f.type [x] = some y
end
end Go.Proofs.YtbjfgdahfpfgdaaGreatDoor.Mem

namespace Go.Proofs.YtbjfgdahfpfgdaaGreatDoor.PgW
open Go Go.RowKit Go.Maps Go.Proofs.YtbjfgdahfpfgdaaGreatDoor.Mem Go.Proofs.YtbjfgdahfpfgdaaGreatDoor.MapsW Go.Proofs.YtbjfgdahfpfgdaaGreatDoor.SeeW Go.Proofs.YtbjfgdahfpfgdaaGreatDoor.DevG Go.Proofs.YtbjfgdahfpfgdaaGreatDoor.PairG Go.Proofs.YtbjfgdahfpfgdaaGreatDoor.RefsW Go.Proofs.YtbjfgdahfpfgdaaGreatDoor.PgP Go.Proofs.YtbjfgdahfpfgdaaGreatDoor.RootP Go.Proofs.YtbjfgdahfpfgdaaGreatDoor.RootW
set_option linter.unusedVariables false
set_option maxRecDepth 100000

/-- nothing -/
abbrev Non : Int → Option (List Nat) := fun _ => none
theorem new_best (b : Nat) : bestOf (Dv.new b) (GeoW.half b) = ⟨0, []⟩ := best_none fun s _ => by
  unfold oneOf
  rw [Dv.new_read]
  exact parse_zeros
theorem byte1 (w : World) (x : Nat) : Nums .u8 (w.alloc (.cells #[.int .u8 (x : Int)] 5)) (some ⟨w.heap.size, 0, none⟩) 1 1 [x] := by
  refine ⟨rfl, Nat.le_refl _, by decide, (fun e => nomatch e), fun j u hj => ⟨_, _, rfl, ?_⟩⟩
  cases j with
  | zero => cases hj; rw [World.cell?, heap_alloc_new]; rfl
  | succ j => simp [nums] at hj
set_option maxHeartbeats 800000 in
theorem opened_w (bs : List Addr) (lo b : Nat) (w : World) (hB : Ev w lo bs seven) (hlo : lo ≤ w.heap.size) (h1 : 300 ≤ b) (h2 : b ≤ 6000) :
    Calls Tryz.prog 14 #[.int .i64 b] w fun e w' => ∃ s d, e = .returned (.tuple #[ptr s, ptr d]) ∧ Store [] bs w' lo b 400 0 s d Non Non 0 ∧ Below w.heap.size w w' := by
  go_enter Tryz.func14, Tryz.ntmps14
  go_wp2_with fail
  refine (new_w b _ (by omega) (by omega)).mono ?_
  rintro e w1 ⟨rfl, k1, b1, z1⟩
  have hB1 := hB.below b1
  have ho := open_none bs lo _ _ _ _ w1 (k1.mono (Nat.le_refl _) hlo) (hB1.sub (by decide)) (by exact h1) (by exact h2) (by omega) rfl (Dv.Idle.new b).bytes (new_best b)
  have HX := hid (And.intro hB1 b1)
  have HH := hid (And.intro h1 h2)
  clear k1 hB hB1 b1 h1 h2
  go_wp2_with fail
  refine ho.mono ?_
  rintro e w2 ⟨I, rfl, K, hd, hH, hz, hc, hown, _, b2⟩
  have hU : Store [] bs w2 lo b 400 0 I.s (w.heap.size + 5) Non Non 0 := ⟨_, _, I, St0, K.mono (by omega), Stand.fresh b I.H, rfl, hd, hH, rfl, HH.out.1, HH.out.2, rfl, by omega, HX.out.1.below b2, by have := b2.size; omega, rfl, rfl, fun y hy => (by cases hy)⟩
  have HU := hid hU
  have HB2 := hid (HX.out.2.trans (b2.mono HX.out.2.size))
  clear ho K hd hH hz hc hown b2 hU
  go_wp2_with fail
  exact bodyPost_ret (v := .tuple #[ptr I.s, ptr (w.heap.size + 5)]) (by simp [results, Tryz.results14, go_sem]) rfl ⟨_, _, rfl, HU.out, HB2.out⟩
theorem isP_of {p : Nat} (h : p < 256) : isP (p : Int) = true := by unfold isP; rw [decide_eq_true (by omega), decide_eq_true (by omega)]; rfl
/-- a page written alone -/
theorem view_upd (N V : Int → Option (List Nat)) (p : Int) {l : List Nat} (hl : l ≠ []) (i : Int) : view (upd N p (some l)) V i = if i = p then some l else view N V i := by
  unfold view
  by_cases e : i = p
  · subst e
    rw [upd_same, if_pos rfl]
    cases l with
    | nil => exact absurd rfl hl
    | cons y l => rfl
  · rw [upd_other _ _ e, if_neg e]
set_option maxHeartbeats 3200000 in
theorem first_w (bs : List Addr) (w : World) (hB : Ev w w.heap.size bs seven) : Calls Tryz.prog 11 #[] w fun e w' => e = .returned (.bool true) ∧ Below w.heap.size w w' := by
  go_enter Tryz.func11, Tryz.ntmps11
  go_wp2_with fail
  refine (opened_w bs w.heap.size 500 w hB (Nat.le_refl _) (by decide) (by decide)).mono ?_
  rintro e w1 ⟨s, d, rfl, K1, b1⟩
  have hp := K1.pages
  have HK1 := hid K1
  have HB1 := hid b1
  have e0 : there Non Non = [] := by decide
  rw [e0] at hp
  clear hB K1 b1 e0
  go_wp2_with fail
  refine hp.mono ?_
  rintro e w2 ⟨⟨a2, c2, rfl, n2⟩, b2⟩
  have HK2 := hid (HK1.out.below b2)
  have HB2 := hid (HB1.out.trans (b2.mono HB1.out.size))
  have hbd := n2.bound
  clear hp n2 b2
  have bA := (Below.refl w2.heap.size w2).alloc (Nat.le_refl _) (.cells #[.int .u8 ((7 : Nat) : Int)] 5)
  have hw := (HK2.out.below bA).write (by decide) (p := ((3 : Nat) : Int)) (isP_of (by decide)) (byte1 w2 7) (by decide) (by decide) (by intro x hx; simp at hx; omega)
  have HBA := hid (HB2.out.trans (bA.mono HB2.out.size))
  clear bA
  go_wp2_with fail
  refine hw.mono ?_
  rintro e w3 ⟨rfl, K3, b3, _⟩
  have HB3 := hid (HBA.out.trans b3)
  have hc0 : cnt (upd Non ((3 : Nat) : Int) (some [7])) ≠ 0 := cnt_pos (i := 3) (by decide) (by decide) rfl
  have hc1 := cnt_le256 (upd Non ((3 : Nat) : Int) (some [7]))
  have hc2 : cnt (view (upd Non ((3 : Nat) : Int) (some [7])) Non) ≤ 4 := cnt_le fun p hp => by
    rw [view_upd _ _ _ (by simp)] at hp
    split at hp
    · omega
    · cases hp
  have hco := K3.commit (q := 4) (by omega) (by decide) (by decide) hc0 (by decide) hc2 (by decide)
  clear hw K3 b3 hc0 hc2
  go_wp2_with fail
  refine hco.mono ?_
  rintro e w4 ⟨rfl, ⟨c4, hc4, K4⟩, b4, _⟩
  have HB4 := hid (HB3.out.trans b4)
  have hop := K4.open_ (by omega) (by omega) (by decide)
  clear hco b4 K4
  go_wp2_with fail
  refine hop.mono ?_
  rintro e w5 ⟨⟨s5, rfl, K5⟩, b5, _⟩
  have HB5 := hid (HB4.out.trans b5)
  have hrd := K5.read (by omega) (by omega) (p := ((3 : Nat) : Int)) (isP_of (by decide))
  rw [show view (fun _ => none) (view (upd Non ((3 : Nat) : Int) (some [7])) Non) ((3 : Nat) : Int) = some [7] from rfl] at hrd
  clear hop b5 K5
  go_wp2_with fail
  refine hrd.mono ?_
  rintro e w6 ⟨⟨a6, cap6, rfl, n6⟩, K6, b6, _, _⟩
  have HB6 := hid (HB5.out.trans b6)
  have bA := (Below.refl w6.heap.size w6).alloc (Nat.le_refl _) (.cells #[.int .u8 ((7 : Nat) : Int)] 5)
  have hsm := RefW.same_w a6 1 cap6 [7] (some ⟨w6.heap.size, 0, none⟩) 1 1 [7] _ (n6.below bA) (byte1 w6 7)
  rw [decide_eq_true rfl] at hsm
  have HBA6 := hid (HB6.out.trans (bA.mono HB6.out.size))
  clear hrd b6 K6 n6 bA
  go_wp2_with fail
  refine hsm.mono ?_
  rintro e w7 ⟨rfl, b7⟩
  have HB7 := hid (HBA6.out.trans (b7.mono HBA6.out.size))
  clear hsm b7
  go_wp2_with fail
  go_ret
  exact ⟨rfl, HB7.out⟩
end Go.Proofs.YtbjfgdahfpfgdaaGreatDoor.PgW

namespace Go.Proofs.YtbjfgdahfpfgdaaGreatDoor.PgW
open Go Go.RowKit Go.Maps Go.Proofs.YtbjfgdahfpfgdaaGreatDoor.Mem Go.Proofs.YtbjfgdahfpfgdaaGreatDoor.MapsW Go.Proofs.YtbjfgdahfpfgdaaGreatDoor.SeeW Go.Proofs.YtbjfgdahfpfgdaaGreatDoor.DevG Go.Proofs.YtbjfgdahfpfgdaaGreatDoor.PgP
set_option linter.unusedVariables false
set_option maxRecDepth 100000

/-- a row of bytes as a value -/
structure Rw where
  a : Option Addr
  cap : Nat
  l : List Nat
abbrev Rw.v (r : Rw) : Value := .slice r.a r.l.length r.cap
abbrev Rw.nil : Rw := ⟨none, 0, []⟩
/-- what a model has -/
structure Md where
  now : Nat → Rw
  was : Nat → Rw
  on : Nat → Bool
  had : Nat → Bool
  ep : Nat
  tou : Nat → Bool
/-- its cells -/
def Md.val (M : Md) (j : Nat) : Value :=
  if j < 30 then (M.now j).v else if j < 60 then (M.was (j - 30)).v else if j < 90 then .bool (M.on (j - 60)) else if j < 120 then .bool (M.had (j - 90)) else if j < 121 then .int .i64 M.ep else .bool (M.tou (j - 121))
theorem Md.val_u8 (M : Md) (j : Nat) (z : Int) : M.val j ≠ .int .u8 z := by
  unfold Md.val
  split
  · simp
  split
  · simp
  split
  · simp
  split
  · simp
  split
  · simp
  · simp
/-- a model lies at block x -/
structure MdAt (w : World) (x : Nat) (M : Md) : Prop where
  blk : ∃ cs : Array Value, w.heap[x]? = some (.cells cs 53) ∧ cs.size = 151
  at_ : ∀ j, j < 151 → w.cell? ⟨x, j, none⟩ = some (M.val j)
  now : ∀ i, i < 30 → Nums .u8 w (M.now i).a (M.now i).l.length (M.now i).cap (M.now i).l
  was : ∀ i, i < 30 → Nums .u8 w (M.was i).a (M.was i).l.length (M.was i).cap (M.was i).l
theorem MdAt.lt {w : World} {x : Nat} {M : Md} (h : MdAt w x M) : x < w.heap.size := let ⟨_, e, _⟩ := h.blk; (Array.getElem?_eq_some_iff.1 e).1
theorem MdAt.frozen {w : World} {x : Nat} {M : Md} (h : MdAt w x M) (j : Nat) : w.frozen? ⟨x, j, none⟩ = false := by
  obtain ⟨cs, e, _⟩ := h.blk
  simp [World.frozen?, e]
theorem MdAt.u8 {w : World} {x : Nat} {M : Md} (h : MdAt w x M) : ∀ y ∈ [x], ∀ off z, w.cell? ⟨y, off, none⟩ ≠ some (.int .u8 z) := by
  intro y hy off z
  rw [List.mem_singleton.1 hy]
  rcases Nat.lt_or_ge off 151 with ho | ho
  · rw [h.at_ off ho]
    exact fun e => M.val_u8 off z (Option.some.inj e)
  · obtain ⟨cs, e, hs⟩ := h.blk
    simp [World.cell?, e, Array.getElem?_eq_none (show cs.size ≤ off by omega)]
theorem MdAt.c0 {w : World} {x : Nat} {M : Md} (h : MdAt w x M) : ∃ v, w.cell? ⟨x, 0, none⟩ = some v ∧ ∀ z, v ≠ .int .u8 z := ⟨_, h.at_ 0 (by decide), fun z => M.val_u8 0 z⟩
theorem MdAt.keep {w w' : World} {x : Nat} {M : Md} (h : MdAt w x M) (e : w'.heap[x]? = w.heap[x]?) (hr : ∀ (a : Option Addr) (n cap : Nat) (l : List Nat), Nums .u8 w a n cap l → Nums .u8 w' a n cap l) : MdAt w' x M :=
  ⟨by rw [e]; exact h.blk, fun j hj => by rw [World.cell?_of_block (w := w) e]; exact h.at_ j hj, fun i hi => hr _ _ _ _ (h.now i hi), fun i hi => hr _ _ _ _ (h.was i hi)⟩
theorem MdAt.below {w w' : World} {x : Nat} {M : Md} (h : MdAt w x M) (hb : Below w.heap.size w w') : MdAt w' x M := h.keep (hb.block x h.lt) fun a n cap l hl => Nums.below hl hb
theorem MdAt.kp {Y : List Nat} {w w' : World} {x : Nat} {M : Md} (h : MdAt w x M) (k : Kp Y w w') (hx : x ∈ Y) : MdAt w' x M := h.keep (k.blk x hx) k.row
/-- some cells are others -/
theorem MdAt.over {w w' : World} {x : Nat} {M M' : Md} (h : MdAt w x M) (hb : ∃ cs : Array Value, w'.heap[x]? = some (.cells cs 53) ∧ cs.size = 151) (ht : Turn [x] w w') (hc : ∀ j, j < 151 → w'.cell? ⟨x, j, none⟩ = some (M'.val j))
    (h1 : ∀ i, i < 30 → Nums .u8 w (M'.now i).a (M'.now i).l.length (M'.now i).cap (M'.now i).l) (h2 : ∀ i, i < 30 → Nums .u8 w (M'.was i).a (M'.was i).l.length (M'.was i).cap (M'.was i).l) : MdAt w' x M' :=
  ⟨hb, hc, fun i hi => DevG.nums_turn (h1 i hi) ht h.u8, fun i hi => DevG.nums_turn (h2 i hi) ht h.u8⟩
theorem setCell_blk {w : World} {x : Nat} {t : TypeId} {k : Nat} (h : ∃ cs : Array Value, w.heap[x]? = some (.cells cs t) ∧ cs.size = k) (o : Nat) (v : Value) : ∃ cs : Array Value, (w.setCell ⟨x, o, none⟩ v).heap[x]? = some (.cells cs t) ∧ cs.size = k := by
  obtain ⟨cs, h1, h2⟩ := h
  exact ⟨_, heap_setCell_same w x o cs _ _ h1, by simp [h2]⟩
theorem setCells_blk {x : Nat} {t : TypeId} {k : Nat} : ∀ (vs : List Value) (o : Nat) (w : World), (∃ cs : Array Value, w.heap[x]? = some (.cells cs t) ∧ cs.size = k) → ∃ cs : Array Value, (w.setCells x o vs).heap[x]? = some (.cells cs t) ∧ cs.size = k
  | [], _, w, h => h
  | v :: r, o, w, h => setCells_blk r (o + 1) _ (setCell_blk h o v)
/-- f with another value at i -/
def ups {α : Type} (f : Nat → α) (i : Nat) (v : α) : Nat → α := fun j => if j = i then v else f j
theorem ups_same {α : Type} (f : Nat → α) (i : Nat) (v : α) : ups f i v i = v := if_pos rfl
theorem ups_other {α : Type} (f : Nat → α) {i j : Nat} (v : α) (h : j ≠ i) : ups f i v j = f j := if_neg h
end Go.Proofs.YtbjfgdahfpfgdaaGreatDoor.PgW

namespace Go.Proofs.YtbjfgdahfpfgdaaGreatDoor.PgW
open Go.Proofs.YtbjfgdahfpfgdaaGreatDoor.MapsW Go.Proofs.YtbjfgdahfpfgdaaGreatDoor.PgP
set_option linter.unusedVariables false
set_option maxRecDepth 100000

structure Rel (M : Md) (V N : Int → Option (List Nat)) (ep : Nat) : Prop where
  cur : ∀ i : Nat, i < 30 → view N V (i : Int) = if M.on i then some (M.now i).l else none
  com : ∀ i : Nat, i < 30 → V (i : Int) = if M.had i then some (M.was i).l else none
  tou : ∀ i : Nat, i < 30 → (N (i : Int)).isSome = M.tou i
  out : ∀ i : Int, i < 0 ∨ 30 ≤ i → V i = none ∧ N i = none
  ep : M.ep = ep
theorem view_other {N N' V : Int → Option (List Nat)} {i : Int} (h : N' i = N i) : view N' V i = view N V i := by unfold view; rw [h]
theorem Rel.write {M : Md} {V N : Int → Option (List Nat)} {ep : Nat} (h : Rel M V N ep) {n : Nat} (hn : n < 30) (r : Rw) (hr : r.l ≠ []) :
    Rel { M with tou := ups M.tou n true, on := ups M.on n true, now := ups M.now n r } V (upd N (n : Int) (some r.l)) ep := by
  refine ⟨fun i hi => ?_, h.com, fun i hi => ?_, fun i hi => ⟨(h.out i hi).1, ?_⟩, h.ep⟩
  · rw [view_upd _ _ _ hr]
    show _ = if ups M.on n true i then some (ups M.now n r i).l else none
    by_cases e : i = n
    · subst e; rw [if_pos rfl, ups_same, ups_same]; rfl
    · rw [if_neg (by omega), ups_other _ _ e, ups_other _ _ e]; exact h.cur i hi
  · show (upd N (n : Int) (some r.l) (i : Int)).isSome = ups M.tou n true i
    by_cases e : i = n
    · subst e; rw [upd_same, ups_same]; rfl
    · rw [upd_other _ _ (by omega), ups_other _ _ e]; exact h.tou i hi
  · rw [upd_other _ _ (by omega)]; exact (h.out i hi).2
theorem Rel.drop {M : Md} {V N : Int → Option (List Nat)} {ep : Nat} (h : Rel M V N ep) {n : Nat} (hn : n < 30) (r : Rw) :
    Rel { M with tou := ups M.tou n (M.tou n || M.on n), on := ups M.on n false, now := ups M.now n r } V (if (view N V (n : Int)).isSome then upd N (n : Int) (some []) else N) ep := by
  have hon : (view N V (n : Int)).isSome = M.on n := by rw [h.cur n hn]; cases M.on n <;> rfl
  rw [hon]
  refine ⟨fun i hi => ?_, h.com, fun i hi => ?_, fun i hi => ⟨(h.out i hi).1, ?_⟩, h.ep⟩
  · show _ = if ups M.on n false i then some (ups M.now n r i).l else none
    by_cases e : i = n
    · subst e
      rw [ups_same]
      cases ho : M.on i with
      | true =>
        simp only [if_true]
        unfold view
        rw [upd_same]
        rfl
      | false =>
        simp only [Bool.false_eq_true, if_false]
        rw [h.cur i hn, ho]
        rfl
    · rw [ups_other _ _ e, ups_other _ _ e, ← h.cur i hi]
      refine view_other ?_
      split
      · exact upd_other _ _ (by omega)
      · rfl
  · show _ = ups M.tou n (M.tou n || M.on n) i
    by_cases e : i = n
    · subst e
      rw [ups_same]
      cases ho : M.on i with
      | true => rw [if_pos rfl, upd_same, Bool.or_true]; rfl
      | false => rw [if_neg (by decide), Bool.or_false]; exact h.tou i hn
    · rw [ups_other _ _ e, ← h.tou i hi]
      split
      · rw [upd_other _ _ (by omega)]
      · rfl
  · split
    · rw [upd_other _ _ (by omega)]; exact (h.out i hi).2
    · exact (h.out i hi).2
theorem Rel.commit {M : Md} {V N : Int → Option (List Nat)} {ep : Nat} (h : Rel M V N ep) (e : Nat) : Rel { M with was := M.now, had := M.on, tou := fun _ => false, ep := e } (view N V) Non e := by
  refine ⟨h.cur, h.cur, fun i hi => rfl, fun i hi => ⟨?_, rfl⟩, rfl⟩
  unfold view
  rw [(h.out i hi).2, (h.out i hi).1]
theorem Rel.same {M : Md} {V N : Int → Option (List Nat)} {ep : Nat} (h : Rel M V N ep) {V' N' : Int → Option (List Nat)} (hV : V' = V) (hN : N' = N) : Rel M V' N' ep := by rw [hV, hN]; exact h
theorem countP_range {p : Nat → Bool} {a b : Nat} (hab : a ≤ b) (h : ∀ i, a ≤ i → i < b → p i = false) : (List.range b).countP p = (List.range a).countP p := by
  obtain ⟨d, rfl⟩ : ∃ d, b = a + d := ⟨b - a, by omega⟩
  rw [List.range_add, List.countP_append]
  have : ((List.range d).map (a + ·)).countP p = 0 := by
    rw [List.countP_eq_zero]
    intro x hx
    obtain ⟨y, hy, rfl⟩ := List.mem_map.1 hx
    rw [h _ (by omega) (by have := List.mem_range.1 hy; omega)]
    simp
  omega
theorem Rel.cnt {M : Md} {V N : Int → Option (List Nat)} {ep : Nat} (h : Rel M V N ep) : PgP.cnt N = (List.range 30).countP M.tou := by
  unfold PgP.cnt
  rw [countP_range (a := 30) (b := 256) (by decide) fun i h1 h2 => by rw [(h.out (i : Int) (.inr (by omega))).2]; rfl]
  refine List.countP_congr fun i hi => ?_
  rw [h.tou i (List.mem_range.1 hi)]
/-- a model of nothing -/
abbrev Md0 : Md := ⟨fun _ => Rw.nil, fun _ => Rw.nil, fun _ => false, fun _ => false, 0, fun _ => false⟩
end Go.Proofs.YtbjfgdahfpfgdaaGreatDoor.PgW
namespace Go.Proofs.YtbjfgdahfpfgdaaGreatDoor.PgW
open Go Go.RowKit Go.Proofs.YtbjfgdahfpfgdaaGreatDoor.Mem Go.Proofs.YtbjfgdahfpfgdaaGreatDoor.MapsW Go.Proofs.YtbjfgdahfpfgdaaGreatDoor.DevG Go.Proofs.YtbjfgdahfpfgdaaGreatDoor.PgP
theorem zmodel : Tryz.zeroCells53 = ((List.range 151).map Md0.val).toArray := by kernel_rfl
theorem MdAt.made (w : World) : MdAt (w.alloc (.cells Tryz.zeroCells53 53)) w.heap.size Md0 := by
  refine ⟨⟨_, alloc_at rfl _, by rw [zmodel]; simp⟩, fun j hj => ?_, fun i hi => Nums.nil _ _, fun i hi => Nums.nil _ _⟩
  rw [World.cell?_alloc_mark, zmodel]
  simp [hj]
end Go.Proofs.YtbjfgdahfpfgdaaGreatDoor.PgW
namespace Go.Proofs.YtbjfgdahfpfgdaaGreatDoor.PgW
open Go.Proofs.YtbjfgdahfpfgdaaGreatDoor.MapsW Go.Proofs.YtbjfgdahfpfgdaaGreatDoor.PgP
theorem Rel.zero : Rel Md0 Non Non 0 := ⟨fun _ _ => rfl, fun _ _ => rfl, fun _ _ => rfl, fun _ _ => ⟨rfl, rfl⟩, rfl⟩
end Go.Proofs.YtbjfgdahfpfgdaaGreatDoor.PgW

namespace Go.Proofs.YtbjfgdahfpfgdaaGreatDoor.PgW
open Go Go.RowKit Go.Maps Go.Proofs.YtbjfgdahfpfgdaaGreatDoor.Mem Go.Proofs.YtbjfgdahfpfgdaaGreatDoor.MapsW Go.Proofs.YtbjfgdahfpfgdaaGreatDoor.SeeW Go.Proofs.YtbjfgdahfpfgdaaGreatDoor.DevG Go.Proofs.YtbjfgdahfpfgdaaGreatDoor.PairG Go.Proofs.YtbjfgdahfpfgdaaGreatDoor.RefsW Go.Proofs.YtbjfgdahfpfgdaaGreatDoor.PgP
set_option linter.unusedVariables false
set_option maxRecDepth 100000

end Go.Proofs.YtbjfgdahfpfgdaaGreatDoor.PgW

namespace Go.Proofs.YtbjfgdahfpfgdaaGreatDoor.RefW
open Go Go.RowKit Go.Proofs.YtbjfgdahfpfgdaaGreatDoor.Mem
set_option linter.unusedVariables false
set_option maxRecDepth 100000

end Go.Proofs.YtbjfgdahfpfgdaaGreatDoor.RefW

namespace Go.Proofs.YtbjfgdahfpfgdaaGreatDoor.PgW
open Go Go.RowKit Go.Maps Go.Proofs.YtbjfgdahfpfgdaaGreatDoor.Mem Go.Proofs.YtbjfgdahfpfgdaaGreatDoor.MapsW Go.Proofs.YtbjfgdahfpfgdaaGreatDoor.SeeW Go.Proofs.YtbjfgdahfpfgdaaGreatDoor.DevG Go.Proofs.YtbjfgdahfpfgdaaGreatDoor.PairG Go.Proofs.YtbjfgdahfpfgdaaGreatDoor.RefsW Go.Proofs.YtbjfgdahfpfgdaaGreatDoor.PgP Go.Proofs.YtbjfgdahfpfgdaaGreatDoor.RootP Go.Proofs.YtbjfgdahfpfgdaaGreatDoor.RootW
set_option linter.unusedVariables false
set_option maxRecDepth 100000

theorem Store.sub {Y Y' : List Nat} {bs : List Addr} {w : World} {lo b n c : Nat} {s d : Nat} {V N : Int → Option (List Nat)} {ep : Nat} (h : Store Y bs w lo b n c s d V N ep) (hY : ∀ y ∈ Y', y ∈ Y) : Store Y' bs w lo b n c s d V N ep := by
  obtain ⟨m, D, I, S, h⟩ := h
  exact ⟨m, D, I, S, ⟨h.at_, h.st, h.hs, h.hd, h.hH, h.bl, h.b1, h.b2, h.cl, h.ic, h.ev, h.los, h.now, h.ep, fun y hy => h.out y (hY y hy)⟩⟩
/-- a store, and the model of it -/
structure Play (Y : List Nat) (bs : List Addr) (w : World) (lo b n c s d x : Nat) (V N : Int → Option (List Nat)) (ep : Nat) (M : Md) : Prop where
  st : Store Y bs w lo b n c s d V N ep
  md : MdAt w x M
  rel : Rel M V N ep
  mem : x ∈ Y
  lox : lo ≤ x
theorem Play.below {Y : List Nat} {bs : List Addr} {w w' : World} {lo b n c s d x : Nat} {V N : Int → Option (List Nat)} {ep : Nat} {M : Md} (h : Play Y bs w lo b n c s d x V N ep M) (hb : Below w.heap.size w w') : Play Y bs w' lo b n c s d x V N ep M :=
  ⟨h.st.below hb, h.md.below hb, h.rel, h.mem, h.lox⟩
theorem Play.alloc {Y : List Nat} {bs : List Addr} {w : World} {lo b n c s d x : Nat} {V N : Int → Option (List Nat)} {ep : Nat} {M : Md} (h : Play Y bs w lo b n c s d x V N ep M) (o : Obj) : Play (w.heap.size :: Y) bs (w.alloc o) lo b n c s d x V N ep M :=
  ⟨h.st.alloc o, h.md.below ((Below.refl _ w).alloc (Nat.le_refl _) o), h.rel, by simp [h.mem], h.lox⟩
theorem Play.sub {Y Y' : List Nat} {bs : List Addr} {w : World} {lo b n c s d x : Nat} {V N : Int → Option (List Nat)} {ep : Nat} {M : Md} (h : Play Y bs w lo b n c s d x V N ep M) (hY : ∀ y ∈ Y', y ∈ Y) (hx : x ∈ Y') : Play Y' bs w lo b n c s d x V N ep M :=
  ⟨h.st.sub hY, h.md, h.rel, hx, h.lox⟩
/-- the model's cell is another -/
theorem Store.cell {Y : List Nat} {bs : List Addr} {w w' : World} {lo b n c s d x : Nat} {V N : Int → Option (List Nat)} {ep : Nat} {M : Md} (h : Store Y bs w lo b n c s d V N ep) (hM : MdAt w x M) (hx : x ∈ Y) (hl : lo ≤ x) (ht : Turn [x] w w') : Store Y bs w' lo b n c s d V N ep := h.set hx ht (.inr hM.c0) hl
end Go.Proofs.YtbjfgdahfpfgdaaGreatDoor.PgW

namespace Go.Proofs.YtbjfgdahfpfgdaaGreatDoor.PgW
open Go Go.RowKit Go.Maps Go.ChangeShapes Go.WideShapes Go.Deep Go.Proofs.YtbjfgdahfpfgdaaGreatDoor.Mem Go.Proofs.YtbjfgdahfpfgdaaGreatDoor.DevG
set_option linter.unusedVariables false
set_option maxRecDepth 100000

/-- the i-th of them -/
structure DoP (w : World) (b o i : Nat) (K N : Int) (s : Option Addr) (sl sc : Nat) (l : List Nat) : Prop where
  c0 : w.cell? ⟨b, o + i * 3, none⟩ = some (.int .i64 K)
  c1 : w.cell? ⟨b, o + i * 3 + 1, none⟩ = some (.int .i64 N)
  c2 : w.cell? ⟨b, o + i * 3 + 2, none⟩ = some (.slice s sl sc)
  nums : Nums .u8 w s sl sc l
  bytes : ∀ x ∈ l, x < 256
  k64 : -9223372036854775808 ≤ K ∧ K ≤ 9223372036854775807
  n64 : -9223372036854775808 ≤ N ∧ N ≤ 9223372036854775807
theorem DoP.below {w w' : World} {b o i : Nat} {K N : Int} {s : Option Addr} {sl sc : Nat} {l : List Nat} (h : DoP w b o i K N s sl sc l) (hb : Below w.heap.size w w') : DoP w' b o i K N s sl sc l :=
  ⟨kept hb h.c0, kept hb h.c1, kept hb h.c2, h.nums.below hb, h.bytes, h.k64, h.n64⟩
end Go.Proofs.YtbjfgdahfpfgdaaGreatDoor.PgW

namespace Go.Proofs.YtbjfgdahfpfgdaaGreatDoor.PgW
open Go Go.RowKit Go.Maps Go.Proofs.YtbjfgdahfpfgdaaGreatDoor.Mem Go.Proofs.YtbjfgdahfpfgdaaGreatDoor.MapsW Go.Proofs.YtbjfgdahfpfgdaaGreatDoor.SeeW Go.Proofs.YtbjfgdahfpfgdaaGreatDoor.DevG Go.Proofs.YtbjfgdahfpfgdaaGreatDoor.PairG Go.Proofs.YtbjfgdahfpfgdaaGreatDoor.RefsW Go.Proofs.YtbjfgdahfpfgdaaGreatDoor.PgP Go.Proofs.YtbjfgdahfpfgdaaGreatDoor.RootP Go.Proofs.YtbjfgdahfpfgdaaGreatDoor.RootW
set_option linter.unusedVariables false
set_option maxRecDepth 100000

end Go.Proofs.YtbjfgdahfpfgdaaGreatDoor.PgW

namespace Go.Proofs.YtbjfgdahfpfgdaaGreatDoor.PgW
open Go Go.RowKit Go.Maps Go.Proofs.YtbjfgdahfpfgdaaGreatDoor.Mem Go.Proofs.YtbjfgdahfpfgdaaGreatDoor.MapsW Go.Proofs.YtbjfgdahfpfgdaaGreatDoor.SeeW Go.Proofs.YtbjfgdahfpfgdaaGreatDoor.DevG Go.Proofs.YtbjfgdahfpfgdaaGreatDoor.PairG Go.Proofs.YtbjfgdahfpfgdaaGreatDoor.RefsW Go.Proofs.YtbjfgdahfpfgdaaGreatDoor.PgP Go.Proofs.YtbjfgdahfpfgdaaGreatDoor.RootP Go.Proofs.YtbjfgdahfpfgdaaGreatDoor.RootW
set_option linter.unusedVariables false
set_option maxRecDepth 100000

end Go.Proofs.YtbjfgdahfpfgdaaGreatDoor.PgW

namespace Go.Proofs.YtbjfgdahfpfgdaaGreatDoor.PgW
open Go Go.RowKit Go.Maps Go.Proofs.YtbjfgdahfpfgdaaGreatDoor.Mem Go.Proofs.YtbjfgdahfpfgdaaGreatDoor.MapsW Go.Proofs.YtbjfgdahfpfgdaaGreatDoor.SeeW Go.Proofs.YtbjfgdahfpfgdaaGreatDoor.DevG Go.Proofs.YtbjfgdahfpfgdaaGreatDoor.PairG Go.Proofs.YtbjfgdahfpfgdaaGreatDoor.RefsW Go.Proofs.YtbjfgdahfpfgdaaGreatDoor.PgP Go.Proofs.YtbjfgdahfpfgdaaGreatDoor.RootP Go.Proofs.YtbjfgdahfpfgdaaGreatDoor.RootW
set_option linter.unusedVariables false
set_option maxRecDepth 100000

/-- beyond all pages -/
def Far (i : Int) : Prop := i < 0 ∨ 256 ≤ i
theorem Far.isP {i : Int} (h : Far i) : isP i = false := by
  unfold Far at h
  unfold PgW.isP
  rcases h with h | h
  · rw [decide_eq_false (by omega)]; rfl
  · rw [decide_eq_true (by omega), decide_eq_false (by omega)]; rfl
end Go.Proofs.YtbjfgdahfpfgdaaGreatDoor.PgW

namespace Go.Proofs.YtbjfgdahfpfgdaaGreatDoor.PgW
open Go Go.RowKit Go.Maps Go.Proofs.YtbjfgdahfpfgdaaGreatDoor.Mem Go.Proofs.YtbjfgdahfpfgdaaGreatDoor.MapsW Go.Proofs.YtbjfgdahfpfgdaaGreatDoor.SeeW Go.Proofs.YtbjfgdahfpfgdaaGreatDoor.DevG Go.Proofs.YtbjfgdahfpfgdaaGreatDoor.PgP
set_option linter.unusedVariables false
set_option maxRecDepth 100000

end Go.Proofs.YtbjfgdahfpfgdaaGreatDoor.PgW

namespace Go.Proofs.YtbjfgdahfpfgdaaGreatDoor.PgW
open Go Go.RowKit Go.Maps Go.Proofs.YtbjfgdahfpfgdaaGreatDoor.Mem Go.Proofs.YtbjfgdahfpfgdaaGreatDoor.MapsW Go.Proofs.YtbjfgdahfpfgdaaGreatDoor.SeeW Go.Proofs.YtbjfgdahfpfgdaaGreatDoor.DevG Go.Proofs.YtbjfgdahfpfgdaaGreatDoor.PairG Go.Proofs.YtbjfgdahfpfgdaaGreatDoor.RefsW Go.Proofs.YtbjfgdahfpfgdaaGreatDoor.PgP Go.Proofs.YtbjfgdahfpfgdaaGreatDoor.RootP Go.Proofs.YtbjfgdahfpfgdaaGreatDoor.RootW
set_option linter.unusedVariables false
set_option maxRecDepth 100000

end Go.Proofs.YtbjfgdahfpfgdaaGreatDoor.PgW

namespace Go.Proofs.YtbjfgdahfpfgdaaGreatDoor.PgW
open Go Go.RowKit Go.Maps Go.Proofs.YtbjfgdahfpfgdaaGreatDoor.Mem Go.Proofs.YtbjfgdahfpfgdaaGreatDoor.MapsW Go.Proofs.YtbjfgdahfpfgdaaGreatDoor.SeeW Go.Proofs.YtbjfgdahfpfgdaaGreatDoor.DevG Go.Proofs.YtbjfgdahfpfgdaaGreatDoor.PairG Go.Proofs.YtbjfgdahfpfgdaaGreatDoor.RefsW Go.Proofs.YtbjfgdahfpfgdaaGreatDoor.PgP Go.Proofs.YtbjfgdahfpfgdaaGreatDoor.RootP Go.Proofs.YtbjfgdahfpfgdaaGreatDoor.RootW
set_option linter.unusedVariables false
set_option maxRecDepth 100000

end Go.Proofs.YtbjfgdahfpfgdaaGreatDoor.PgW

namespace Go.Proofs.YtbjfgdahfpfgdaaGreatDoor.PgW
open Go Go.RowKit Go.Maps Go.Proofs.YtbjfgdahfpfgdaaGreatDoor.Mem Go.Proofs.YtbjfgdahfpfgdaaGreatDoor.MapsW Go.Proofs.YtbjfgdahfpfgdaaGreatDoor.SeeW Go.Proofs.YtbjfgdahfpfgdaaGreatDoor.DevG Go.Proofs.YtbjfgdahfpfgdaaGreatDoor.PgP
set_option linter.unusedVariables false
set_option maxRecDepth 100000

end Go.Proofs.YtbjfgdahfpfgdaaGreatDoor.PgW

namespace Go.Proofs.YtbjfgdahfpfgdaaGreatDoor.PgW
open Go Go.RowKit Go.Maps Go.Proofs.YtbjfgdahfpfgdaaGreatDoor.Mem Go.Proofs.YtbjfgdahfpfgdaaGreatDoor.MapsW Go.Proofs.YtbjfgdahfpfgdaaGreatDoor.SeeW Go.Proofs.YtbjfgdahfpfgdaaGreatDoor.DevG Go.Proofs.YtbjfgdahfpfgdaaGreatDoor.PairG Go.Proofs.YtbjfgdahfpfgdaaGreatDoor.RefsW Go.Proofs.YtbjfgdahfpfgdaaGreatDoor.PgP Go.Proofs.YtbjfgdahfpfgdaaGreatDoor.RootP Go.Proofs.YtbjfgdahfpfgdaaGreatDoor.RootW
set_option linter.unusedVariables false
set_option maxRecDepth 100000

theorem UpF.all_lt {Y : List Nat} {bs : List Addr} {w : World} {lo b n c : Nat} {s d : Nat} {V N : Int → Option (List Nat)} {ep k : Nat} {m : Mp} {D : Dv} {I : Si} {S : St} (h : UpF Y bs w lo b n c s d V N ep k m D I S) : ∀ x ∈ I.all m, x < w.heap.size := by
  intro x hx
  rcases List.mem_cons.1 hx with e | hx
  · obtain ⟨b', o', e', hc, _⟩ := h.at_.tabs.at (j := 0) (by rw [h.at_.tabs.len]; decide)
    cases e'
    rw [e]
    exact World.block_lt_of_cell? _ _ hc
  · rcases List.mem_append.1 hx with hx | hx
    · obtain ⟨o, e⟩ := mem_raB hx
      exact (h.at_.rx x o e).1
    · exact h.at_.own_lt x hx
/-- a new block beside -/
theorem Armed.grow {Y : List Nat} {bs : List Addr} {w w' : World} {lo b n c : Nat} {s d : Nat} {V N : Int → Option (List Nat)} {ep k : Nat} (h : Armed Y bs w lo b n c s d V N ep k) (hb : Below w.heap.size w w') {y : Nat} (h1 : w.heap.size ≤ y) (h2 : y < w'.heap.size) : Armed (y :: Y) bs w' lo b n c s d V N ep k := by
  obtain ⟨m, D, I, S, h⟩ := h
  refine ⟨m, D, I, S, h.at_.below hb, h.st, h.hs, h.hd, h.hH, h.bl, h.b1, h.b2, h.cl, h.ic, h.ev.below hb, Nat.le_trans h.los hb.size, h.now, h.ep, fun z hz => ?_⟩
  rcases List.mem_cons.1 hz with rfl | hz
  · exact ⟨h2, fun hm => by have := h.all_lt _ hm; omega⟩
  · exact ⟨Nat.lt_of_lt_of_le (h.out z hz).1 hb.size, (h.out z hz).2⟩
theorem Store.grow {Y : List Nat} {bs : List Addr} {w w' : World} {lo b n c : Nat} {s d : Nat} {V N : Int → Option (List Nat)} {ep : Nat} (h : Store Y bs w lo b n c s d V N ep) (hb : Below w.heap.size w w') {y : Nat} (h1 : w.heap.size ≤ y) (h2 : y < w'.heap.size) : Store (y :: Y) bs w' lo b n c s d V N ep := (h.armed.grow hb h1 h2).store
theorem Gone.grow {Y : List Nat} {bs : List Addr} {w w' : World} {lo b n c d : Nat} {t : Bool} {P : Dv → Prop} (h : Gone Y bs w lo b n c d t P) (hb : Below w.heap.size w w') {y : Nat} (h1 : w.heap.size ≤ y) (h2 : y < w'.heap.size) : Gone (y :: Y) bs w' lo b n c d t P := by
  obtain ⟨m, E, h⟩ := h
  refine ⟨m, E, h.at_.below hb, h.bl, h.b1, h.b2, h.cl, h.np, h.dn, h.cr, h.ev.below hb, Nat.le_trans h.los hb.size, fun z hz => ?_⟩
  rcases List.mem_cons.1 hz with rfl | hz
  · exact ⟨h2, fun hm => by have := h.at_.olds _ hm; omega⟩
  · exact ⟨Nat.lt_of_lt_of_le (h.out z hz).1 hb.size, (h.out z hz).2⟩
theorem Gone.lo {Y : List Nat} {bs : List Addr} {w : World} {lo b n c d : Nat} {t : Bool} {P : Dv → Prop} (h : Gone Y bs w lo b n c d t P) : lo ≤ w.heap.size := let ⟨_, _, h⟩ := h; h.los
theorem Ajar.lo {Y : List Nat} {bs : List Addr} {w : World} {lo b n c d : Nat} {V : Int → Option (List Nat)} {ep k : Nat} (h : Ajar Y bs w lo b n c d V ep k) : lo ≤ w.heap.size := let ⟨_, _, _, h⟩ := h; h.los
theorem Armed.lo {Y : List Nat} {bs : List Addr} {w : World} {lo b n c : Nat} {s d : Nat} {V N : Int → Option (List Nat)} {ep k : Nat} (h : Armed Y bs w lo b n c s d V N ep k) : lo ≤ w.heap.size := let ⟨_, _, _, _, h⟩ := h; h.los
theorem Armed.below {Y : List Nat} {bs : List Addr} {w w' : World} {lo b n c : Nat} {s d : Nat} {V N : Int → Option (List Nat)} {ep k : Nat} (h : Armed Y bs w lo b n c s d V N ep k) (hb : Below w.heap.size w w') : Armed Y bs w' lo b n c s d V N ep k := by
  obtain ⟨m, D, I, S, h⟩ := h
  exact ⟨m, D, I, S, h.at_.below hb, h.st, h.hs, h.hd, h.hH, h.bl, h.b1, h.b2, h.cl, h.ic, h.ev.below hb, Nat.le_trans h.los hb.size, h.now, h.ep, fun z hz => ⟨Nat.lt_of_lt_of_le (h.out z hz).1 hb.size, (h.out z hz).2⟩⟩
theorem Gone.below {Y : List Nat} {bs : List Addr} {w w' : World} {lo b n c d : Nat} {t : Bool} {P : Dv → Prop} (h : Gone Y bs w lo b n c d t P) (hb : Below w.heap.size w w') : Gone Y bs w' lo b n c d t P := by
  obtain ⟨m, E, h⟩ := h
  exact ⟨m, E, h.at_.below hb, h.bl, h.b1, h.b2, h.cl, h.np, h.dn, h.cr, h.ev.below hb, Nat.le_trans h.los hb.size, fun z hz => ⟨Nat.lt_of_lt_of_le (h.out z hz).1 hb.size, (h.out z hz).2⟩⟩
/-- a model, another block written -/
theorem MdAt.aside {w w' : World} {x y : Nat} {M M' : Md} (h : MdAt w x M) (hy : MdAt w y M') (ht : Turn [y] w w') (hne : x ≠ y) : MdAt w' x M :=
  h.keep (ht.block x h.lt (by simpa using hne)) fun a n cap l hl => DevG.nums_turn hl ht hy.u8
def Md.all (M : Md) : List Value := (List.range 151).map M.val
theorem Md.all_len (M : Md) : M.all.length = 151 := by simp [Md.all]
theorem Md.all_get (M : Md) {j : Nat} (h : j < M.all.length) : M.all[j] = M.val j := by simp [Md.all]
theorem MdAt.range {w : World} {x : Nat} {M : Md} (h : MdAt w x M) : w.rangeAt x 0 M.all := fun j v hj => by
  obtain ⟨hj1, hj2⟩ := List.getElem?_eq_some_iff.1 hj
  rw [Md.all_get] at hj2
  rw [Nat.zero_add, h.at_ j (by rw [Md.all_len] at hj1; exact hj1), hj2]
theorem MdAt.there {w : World} {x : Nat} {M : Md} (h : MdAt w x M) (M' : Md) : w.there x 0 M'.all.toArray.size := fun j hj => by
  have hj3 : j < 151 := by simpa [Md.all] using hj
  exact ⟨by rw [Nat.zero_add, h.at_ j hj3]; rfl, h.frozen _⟩
/-- one model laid over another -/
theorem MdAt.whole {w : World} {x y : Nat} {M M' : Md} (h : MdAt w x M) (hy : MdAt w y M') : MdAt (w.setCells x 0 M'.all) x M' := by
  refine h.over (setCells_blk _ 0 w h.blk) (turn_setCells x _ 0 w) (fun j hj => ?_) hy.now hy.was
  have := World.cell?_setCells_in x M'.all 0 w (fun q hq => by rw [Md.all_len] at hq; rw [Nat.zero_add, h.at_ q hq]; rfl) j (by rw [Md.all_len]; exact hj)
  rw [Nat.zero_add] at this
  rw [this, Md.all_get]
/-- two models, the second one written -/
structure Two (w : World) (x y : Nat) (M M' : Md) : Prop where
  x_ : MdAt w x M
  y_ : MdAt w y M'
  ne : x ≠ y
theorem Two.put {w w' : World} {x y : Nat} {M M' M2 : Md} (h : Two w x y M M') (hy : MdAt w' y M2) (ht : Turn [y] w w') : Two w' x y M M2 := ⟨h.x_.aside h.y_ ht h.ne, hy, h.ne⟩
theorem Two.bel {w w' : World} {x y : Nat} {M M' : Md} (h : Two w x y M M') (ht : Turn [y] w w') {B : Nat} (hB : B ≤ y) : Below B w w' := ht.below (Nat.le_trans hB (Nat.le_of_lt h.y_.lt)) fun z hz => by rw [List.mem_singleton.1 hz]; exact hB
/-- the law's model made another one -/
theorem Play.whole {Y : List Nat} {bs : List Addr} {w : World} {lo b n c s d x y : Nat} {V N : Int → Option (List Nat)} {ep : Nat} {M M' : Md} (h : Store Y bs w lo b n c s d V N ep) (hx : MdAt w x M) (hy : MdAt w y M') (hR : Rel M' V N ep) (hm : x ∈ Y) (hl : lo ≤ x) : Play [x] bs (w.setCells x 0 M'.all) lo b n c s d x V N ep M' ∧ Below lo w (w.setCells x 0 M'.all) :=
  ⟨⟨(h.cell hx hm hl (turn_setCells x _ 0 w)).sub (fun y hy => by rw [List.mem_singleton.1 hy]; exact hm), hx.whole hy, hR, by simp, hl⟩, (turn_setCells x _ 0 w).below h.lo fun y hy => by rw [List.mem_singleton.1 hy]; exact hl⟩
end Go.Proofs.YtbjfgdahfpfgdaaGreatDoor.PgW
