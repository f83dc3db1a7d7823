/- Plain facts: a fault of one copy of a pair of which both are right; A store over a device of which copies are wrong: healed; A store over a device of which copies were wrong: flushed behind healing; faults of whole pairs; A store over a device of which copies are wrong, told of explicitly: a page read; other blocks; A keep while it is read from its pages: what stands in memory; The pages of a store, in a row of its own. -/
import Derived.Test.YtbjfgdahfpfgdaaGreatDoorKeepFaultsP22
import Derived.Test.YtbjfgdahfpfgdaaGreatDoorKeepFaultsP21
namespace Go.Proofs.YtbjfgdahfpfgdaaGreatDoor.PgW
open Go Go.RowKit Go.Maps Go.Proofs.YtbjfgdahfpfgdaaGreatDoor.Mem Go.Proofs.YtbjfgdahfpfgdaaGreatDoor.MapsW Go.Proofs.YtbjfgdahfpfgdaaGreatDoor.SeeW Go.Proofs.YtbjfgdahfpfgdaaGreatDoor.DevG Go.Proofs.YtbjfgdahfpfgdaaGreatDoor.PairG Go.Proofs.YtbjfgdahfpfgdaaGreatDoor.PgP Go.Proofs.YtbjfgdahfpfgdaaGreatDoor.RootP Go.Proofs.YtbjfgdahfpfgdaaGreatDoor.RootW
set_option linter.unusedVariables false
set_option maxRecDepth 100000

/-- a pair of which both copies are right -/
structure Whole (H : Nat) (S : St) (C : Nat → List Nat) (D : Dv) (k : Nat) : Prop where
  pg : 2 ≤ k → k ∈ used S.tabs S.at_ H → Sound D (k : Int) (C k) ∧ Sound D ((k + H : Nat) : Int) (C k)
  rt : 0 < S.ep → k = S.ep % 2 → oneOf D (k : Int) = some ⟨(S.ep : Int), S.rs⟩ ∧ oneOf D ((k + H : Nat) : Int) = some ⟨(S.ep : Int), S.rs⟩
/-- two devices that differ in one block alone -/
structure But (D E : Dv) (i : Int) : Prop where
  down : E.down = D.down
  fuse : E.fuse = D.fuse
  blocks : E.blocks = D.blocks
  np : E.np = D.np
  calls : E.calls = D.calls
  pe : E.pe = D.pe
  fl : ∀ j, j ≠ i → E.fl j = D.fl j
  fi : ∀ j, j ≠ i → E.fi j = D.fi j
  fa : ∀ j, j ≠ i → E.fa j = D.fa j
theorem But.read {D E : Dv} {i : Int} (h : But D E i) {j : Int} (hj : j ≠ i) : E.read j = D.read j := read_of (by rw [h.pe]) (h.fi j hj) (h.fl j hj)
theorem But.one {D E : Dv} {i : Int} (h : But D E i) {j : Int} (hj : j ≠ i) : oneOf E j = oneOf D j := by unfold oneOf; rw [h.read hj]
theorem But.kept {D E : Dv} {i : Int} (h : But D E i) {j : Int} (hj : j ≠ i) : keptOf E j = keptOf D j := by unfold keptOf; rw [h.fl j hj]
theorem But.cp {D E : Dv} {i : Int} (h : But D E i) {j : Int} (hj : j ≠ i) {P : List Nat} (hc : Cp D j P) : Cp E j P := hc.same (by rw [h.pe]) (h.fi j hj) (h.fl j hj) (h.fa j hj)
theorem But.sound {D E : Dv} {i : Int} (h : But D E i) {j : Int} (hj : j ≠ i) {P : List Nat} (hc : Sound D j P) : Sound E j P := ⟨by rw [h.pe]; exact hc.1, (h.fa j hj).trans hc.2.1, (h.kept hj).trans hc.2.2.1, (h.fi j hj).trans hc.2.2.2⟩
theorem But.refl (D : Dv) (i : Int) : But D D i := ⟨rfl, rfl, rfl, rfl, rfl, rfl, fun _ _ => rfl, fun _ _ => rfl, fun _ _ => rfl⟩
theorem But.fail (D : Dv) (i : Int) : But D (D.fail i) i := by
  cases hm : D.may i with
  | false => rw [show D.fail i = D by unfold Dv.fail; rw [hm]; rfl]; exact But.refl D i
  | true =>
    rw [show D.fail i = { D with fi := upd D.fi i true }.fault i by unfold Dv.fail; rw [hm]; rfl]
    exact ⟨rfl, rfl, rfl, rfl, rfl, rfl, fun _ _ => rfl, fun j hj => upd_other _ _ hj, fun j hj => upd_other _ _ hj⟩
theorem But.spoil (D : Dv) (i at_ : Int) (t : Nat) : But D (D.spoil i at_ t) i := by
  cases hm : D.mayS i at_ t with
  | false => rw [spoil_no hm]; exact But.refl D i
  | true =>
    rw [spoil_yes hm]
    exact ⟨rfl, rfl, rfl, rfl, rfl, rfl, fun j hj => upd_other _ _ hj, fun _ _ => rfl, fun j hj => upd_other _ _ hj⟩
/-- the copies of other pairs lie elsewhere -/
theorem far_pair {H k a : Nat} {i : Int} (hk : k < H) (ha : a < H) (hi : i = (k : Int) ∨ i = ((k + H : Nat) : Int)) (hne : a ≠ k) : (a : Int) ≠ i ∧ ((a + H : Nat) : Int) ≠ i := by omega
theorem Whole.but {H : Nat} {S : St} {C : Nat → List Nat} {D E : Dv} {k a : Nat} {i : Int} (h : Whole H S C D a) (hb : But D E i) (hk : k < H) (ha : a < H) (hi : i = (k : Int) ∨ i = ((k + H : Nat) : Int)) (hne : a ≠ k) : Whole H S C E a := by
  obtain ⟨n1, n2⟩ := far_pair hk ha hi hne
  exact ⟨fun h1 h2 => ⟨hb.sound n1 (h.pg h1 h2).1, hb.sound n2 (h.pg h1 h2).2⟩, fun h0 h1 => by rw [hb.one n1, hb.one n2]; exact h.rt h0 h1⟩
theorem spot_lt {H s : Nat} (h : s ∈ spots H) : ∃ r, r < 2 ∧ (s = r ∨ s = r + H) := by
  rcases spots_mem h with rfl | rfl | rfl | rfl
  · exact ⟨0, by omega, .inl rfl⟩
  · exact ⟨0, by omega, .inr (by omega)⟩
  · exact ⟨1, by omega, .inl rfl⟩
  · exact ⟨1, by omega, .inr rfl⟩
/-- one copy of a pair that was whole is another -/
theorem Limp.but {H : Nat} {S : St} {V : Int → Option (List Nat)} {C : Nat → List Nat} {D E : Dv} (h : Limp H S V C D) (h2 : 2 ≤ H) {k : Nat} {i : Int} (hb : But D E i) (hk : k < H) (hi : i = (k : Int) ∨ i = ((k + H : Nat) : Int)) (hw : Whole H S C D k)
    (hc : 2 ≤ k → k ∈ used S.tabs S.at_ H → Cp E i (C k)) (hr : k < 2 → Rs E i) (ho : k < 2 → oneOf E i = none ∨ oneOf E i = oneOf D i) (hy : ∀ l, E.read i = some l → Crc.Bytes l) : Limp H S V C E := by
  have hone : ∀ s ∈ spots H, ∀ q, oneOf E (s : Int) = some q → oneOf D (s : Int) = some q := fun s hs q hq => by
    by_cases e : (s : Int) = i
    · obtain ⟨r, r2, hr⟩ := spot_lt hs
      have hk2 : k < 2 := by omega
      rw [e] at hq ⊢
      rcases ho hk2 with e1 | e1
      · rw [e1] at hq; cases hq
      · rw [← e1]; exact hq
    · rw [← hb.one e]; exact hq
  refine ⟨h.fit, h.now, fun a a2 aH ha => ?_, hb.down.trans h.down, hb.fuse.trans h.fuse, fun j l hl => ?_, fun s hs q hq => h.le s hs q (hone s hs q hq), fun s hs q hq => h.eq s hs q (hone s hs q hq), fun h0 => ?_, fun s hs => ?_⟩
  · have hl := h.lame a a2 aH ha
    by_cases e : a = k
    · subst e
      obtain ⟨s1, s2⟩ := hw.pg a2 ha
      have hcc := hc a2 ha
      rcases hi with rfl | rfl
      · have n : ((a + H : Nat) : Int) ≠ (a : Int) := by omega
        exact ⟨hl.blk, hcc, (hb.sound n s2).cp, .inr (hb.sound n s2).read⟩
      · have n : (a : Int) ≠ ((a + H : Nat) : Int) := by omega
        exact ⟨hl.blk, (hb.sound n s1).cp, hcc, .inl (hb.sound n s1).read⟩
    · obtain ⟨n1, n2⟩ := far_pair hk aH hi e
      exact ⟨hl.blk, hb.cp n1 hl.c1, hb.cp n2 hl.c2, by rw [hb.read n1, hb.read n2]; exact hl.one⟩
  · by_cases e : j = i
    · subst e; exact hy l hl
    · rw [hb.read e] at hl; exact h.bytes j l hl
  · by_cases e : k = S.ep % 2
    · obtain ⟨r1, r2⟩ := hw.rt h0 e
      rw [← e]
      rcases hi with rfl | rfl
      · right; rw [hb.one (by omega)]; exact r2
      · left; rw [hb.one (by omega)]; exact r1
    · obtain ⟨n1, n2⟩ := far_pair hk (show S.ep % 2 < H by omega) hi (fun e' => e e'.symm)
      rw [hb.one n1, hb.one n2]
      exact h.one h0
  · by_cases e : (s : Int) = i
    · obtain ⟨r, r2, hr'⟩ := spot_lt hs
      rw [e]
      exact hr (by omega)
    · exact (h.rt s hs).same (by rw [hb.pe]) (hb.fi _ e) (hb.fl _ e) (hb.fa _ e)
theorem one_of_none {D : Dv} {i : Int} (h : D.read i = none) : oneOf D i = none := by unfold oneOf; rw [h]; rfl
/-- a copy fails -/
theorem Limp.fail {H : Nat} {S : St} {V : Int → Option (List Nat)} {C : Nat → List Nat} {D : Dv} (h : Limp H S V C D) (h2 : 2 ≤ H) {k : Nat} {i : Int} (hk : k < H) (hi : i = (k : Int) ∨ i = ((k + H : Nat) : Int)) (hw : Whole H S C D k) : Limp H S V C (D.fail i) := by
  cases hm : D.may i with
  | false => rw [show D.fail i = D by unfold Dv.fail; rw [hm]; rfl]; exact h
  | true =>
    obtain ⟨p1, p2⟩ := may_of hm
    have e : D.fail i = { D with fi := upd D.fi i true }.fault i := by unfold Dv.fail; rw [hm]; rfl
    have hpe : (D.fail i).pe i = none := by rw [e]; exact p1
    have hfa : (D.fail i).fa i = true := by rw [e]; exact upd_same _ _ _
    have hrd : (D.fail i).read i = none := read_failed hpe (by rw [e]; exact upd_same _ _ _)
    refine h.but h2 (But.fail D i) hk hi hw (fun k2 hu => ?_) (fun _ => .inr (.inr ⟨hpe, hfa, fun l hl => by rw [hrd] at hl; cases hl⟩)) (fun _ => .inl (one_of_none hrd)) (fun l hl => by rw [hrd] at hl; cases hl)
    have hl := h.lame k k2 hk hu
    rcases hi with rfl | rfl
    · exact hl.c1.fail
    · exact hl.c2.fail
theorem Spot.but {D E : Dv} {i : Int} (hb : But D E i) {s : Nat} (hs : (s : Int) ≠ i) (h : Spot D s) : Spot E s := h.same (hb.read hs)
theorem read_kept {D : Dv} {i : Int} (hp : D.pe i = none) {l : List Nat} (hl : D.read i = some l) : D.fi i = false ∧ keptOf D i = l := by
  cases hi : D.fi i with
  | true => rw [read_failed hp hi] at hl; cases hl
  | false => rw [read_flushed hp hi] at hl; exact ⟨rfl, Option.some.inj hl⟩
/-- a root's block that was turned is no root, and not nothing -/
theorem turned_spot {l : List Nat} (h : l = List.replicate 256 0 ∨ ∃ r, Fine r ∧ l = enc r) {p t : Nat} (hp : p ≤ 252) (h0 : t ≠ 0) (ht : t < 4294967296) : parse (Crc.turned l (p : Int) t) = none ∧ ∃ c ∈ Crc.turned l (p : Int) t, c ≠ 0 := by
  have hlen : l.length = 256 := by
    rcases h with rfl | ⟨r, _, rfl⟩
    · simp
    · exact enc_length r
  have hne : Crc.turned l (p : Int) t ≠ l := Crc.turned_ne (by omega) h0 ht
  have hz : (∀ c ∈ Crc.turned l (p : Int) t, c = 0) → Crc.turned l (p : Int) t = List.replicate 256 0 := fun hc => List.eq_replicate_iff.2 ⟨by rw [Crc.turned_length, hlen], hc⟩
  have hex : ∀ hq : Crc.turned l (p : Int) t ≠ List.replicate 256 0, ∃ c ∈ Crc.turned l (p : Int) t, c ≠ 0 := fun hq => Classical.byContradiction fun hn => hq (hz fun c hc => Classical.byContradiction fun h => hn ⟨c, hc, h⟩)
  rcases h with rfl | ⟨r, hf, rfl⟩
  · exact ⟨parse_turned_zeros p t, hex hne⟩
  · refine ⟨parse_turned hf.g hf.s _ t hne, hex fun hq => ?_⟩
    have he : List.replicate 256 0 = enc ⟨0, []⟩ := by decide
    have h3 : RootP.half (⟨0, []⟩ : Rt) = RootP.half r := by
      refine halves_eq p fun i hi => ?_
      rw [← he, ← hq]
      rw [show Crc.turned (enc r) (p : Int) t = Crc.turnK (enc r) (p : Int) t 4 from rfl, Crc.turnK_get]
      cases (enc r)[i]? with
      | none => rfl
      | some c => simp only [Option.map_some]; rw [if_neg hi]
    have h4 : enc r = List.replicate 256 0 := by rw [he]; unfold enc; rw [h3]
    have h5 := hf.parse
    rw [h4, parse_zeros] at h5
    cases h5
/-- a copy is turned -/
theorem Limp.spoil {H : Nat} {S : St} {V : Int → Option (List Nat)} {C : Nat → List Nat} {D : Dv} (h : Limp H S V C D) (h2 : 2 ≤ H) {k : Nat} {i : Int} (hk : k < H) (hi : i = (k : Int) ∨ i = ((k + H : Nat) : Int)) (hw : Whole H S C D k) (hs : k < 2 → Spot D k ∧ Spot D (k + H)) (p t : Nat) (ht : t < 4294967296) (hy : Crc.Bytes (keptOf D i)) : Limp H S V C (D.spoil i (p : Int) t) := by
  cases hm : D.mayS i (p : Int) t with
  | false => rw [spoil_no hm]; exact h
  | true =>
    have e := spoil_yes hm
    have hmm := hm
    unfold Dv.mayS at hmm
    rw [Bool.and_eq_true, decide_eq_true_eq] at hmm
    obtain ⟨m1, m2, m3⟩ := may_of hmm.1, hmm.2.1, hmm.2.2
    obtain ⟨p1, p2⟩ := m1
    have hpe : (D.spoil i (p : Int) t).pe i = none := by rw [e]; exact p1
    have hfa : (D.spoil i (p : Int) t).fa i = true := by rw [e]; exact upd_same _ _ _
    have hrd : ∀ l, (D.spoil i (p : Int) t).read i = some l → l = Crc.turned (keptOf D i) (p : Int) t := fun l hl => by
      obtain ⟨q1, q2⟩ := read_kept hpe hl
      rw [← q2, e]
      exact kept_of (upd_same _ _ _)
    refine h.but h2 (But.spoil D i (p : Int) t) hk hi hw (fun k2 hu => ?_) (fun k2 => .inr (.inr ⟨hpe, hfa, fun l hl => ?_⟩)) (fun k2 => .inl ?_) (fun l hl => by rw [hrd l hl]; exact Crc.turned_bytes hy _ _)
    · have hl := h.lame k k2 hk hu
      rcases hi with rfl | rfl
      · exact hl.c1.spoil hl.blk p t ht
      · exact hl.c2.spoil hl.blk p t ht
    · rw [hrd l hl]
      refine turned_spot ?_ (by omega) m3.2 ht
      obtain ⟨s1, s2⟩ := hs k2
      rcases hi with rfl | rfl
      · rcases s1 with s1 | ⟨r, hf, s1⟩
        · exact .inl (read_kept p1 s1).2
        · exact .inr ⟨r, hf, (read_kept p1 s1).2⟩
      · rcases s2 with s2 | ⟨r, hf, s2⟩
        · exact .inl (read_kept p1 s2).2
        · exact .inr ⟨r, hf, (read_kept p1 s2).2⟩
    · cases hR : (D.spoil i (p : Int) t).read i with
      | none => exact one_of_none hR
      | some l =>
        unfold oneOf
        rw [hR]
        show parse l = none
        rw [hrd l hR]
        refine (turned_spot ?_ (by omega) m3.2 ht).1
        obtain ⟨s1, s2⟩ := hs k2
        rcases hi with rfl | rfl
        · rcases s1 with s1 | ⟨r, hf, s1⟩
          · exact .inl (read_kept p1 s1).2
          · exact .inr ⟨r, hf, (read_kept p1 s1).2⟩
        · rcases s2 with s2 | ⟨r, hf, s2⟩
          · exact .inl (read_kept p1 s2).2
          · exact .inr ⟨r, hf, (read_kept p1 s2).2⟩
/-- the pairs that no fault has met yet -/
structure Left (H : Nat) (S : St) (C : Nat → List Nat) (D : Dv) (dn : Nat → Bool) : Prop where
  w : ∀ k, k < H → dn k = false → Whole H S C D k
  sp : ∀ k, k < 2 → dn k = false → Spot D k ∧ Spot D (k + H)
  kb : ∀ i, Crc.Bytes (keptOf D i)
theorem Left.but {H : Nat} {S : St} {C : Nat → List Nat} {D E : Dv} {dn : Nat → Bool} {k : Nat} {i : Int} (h : Left H S C D dn) (h2 : 2 ≤ H) (hb : But D E i) (hk : k < H) (hi : i = (k : Int) ∨ i = ((k + H : Nat) : Int)) (hy : Crc.Bytes (keptOf E i)) : Left H S C E (fun j => if j = k then true else dn j) := by
  refine ⟨fun a ha hd => ?_, fun a ha hd => ?_, fun j => ?_⟩
  · by_cases e : a = k
    · rw [if_pos e] at hd; cases hd
    · rw [if_neg e] at hd; exact (h.w a ha hd).but hb hk ha hi e
  · by_cases e : a = k
    · rw [if_pos e] at hd; cases hd
    · rw [if_neg e] at hd
      obtain ⟨n1, n2⟩ := far_pair hk (show a < H by omega) hi e
      exact ⟨(h.sp a ha hd).1.but hb n1, (h.sp a ha hd).2.but hb n2⟩
  · by_cases e : j = i
    · subst e; exact hy
    · rw [hb.kept e]; exact h.kb j
theorem kept_fail (D : Dv) (i : Int) : keptOf (D.fail i) i = keptOf D i := by
  cases hm : D.may i with
  | false => rw [show D.fail i = D by unfold Dv.fail; rw [hm]; rfl]
  | true => rw [show D.fail i = { D with fi := upd D.fi i true }.fault i by unfold Dv.fail; rw [hm]; rfl]; rfl
theorem kept_spoil {D : Dv} {i : Int} (h : Crc.Bytes (keptOf D i)) (at_ : Int) (t : Nat) : Crc.Bytes (keptOf (D.spoil i at_ t) i) := by
  cases hm : D.mayS i at_ t with
  | false => rw [spoil_no hm]; exact h
  | true =>
    rw [spoil_yes hm, kept_of (l := Crc.turned (keptOf D i) at_ t) (upd_same _ _ _)]
    exact Crc.turned_bytes h _ _
end Go.Proofs.YtbjfgdahfpfgdaaGreatDoor.PgW

namespace Go.Proofs.YtbjfgdahfpfgdaaGreatDoor.PgW
open Go Go.RowKit Go.Maps Go.Proofs.YtbjfgdahfpfgdaaGreatDoor.Mem Go.Proofs.YtbjfgdahfpfgdaaGreatDoor.MapsW Go.Proofs.YtbjfgdahfpfgdaaGreatDoor.SeeW Go.Proofs.YtbjfgdahfpfgdaaGreatDoor.DevG Go.Proofs.YtbjfgdahfpfgdaaGreatDoor.PairG Go.Proofs.YtbjfgdahfpfgdaaGreatDoor.RefsW Go.Proofs.YtbjfgdahfpfgdaaGreatDoor.PgP Go.Proofs.YtbjfgdahfpfgdaaGreatDoor.RootP Go.Proofs.YtbjfgdahfpfgdaaGreatDoor.RootW
set_option linter.unusedVariables false
set_option maxRecDepth 100000

/-- a store of which the first K pairs were healed -/
def LimH (Y : List Nat) (bs : List Addr) (w : World) (lo b n c s d : Nat) (V : Int → Option (List Nat)) (C : Nat → List Nat) (ep np K : Nat) : Prop := ∃ m D I S, LimM Y bs w lo b n c s d V C ep np m D I S ∧ ∀ a, a < K → a ∈ used S.tabs S.at_ I.H → Healed I.H S D a
theorem LimM.ok {Y : List Nat} {bs : List Addr} {w : World} {lo b n c s d : Nat} {V : Int → Option (List Nat)} {C : Nat → List Nat} {ep np : Nat} {m : Mp} {D : Dv} {I : Si} {S : St} (h : LimM Y bs w lo b n c s d V C ep np m D I S) : 2 ≤ I.H ∧ I.H ≤ 512 := by
  have h1 := h.hH
  have h2 := half_two h.b1
  have h3 := GeoW.half_512 b
  omega
theorem LimM.kp {Y : List Nat} {bs : List Addr} {w w' : World} {lo b n c s d : Nat} {V : Int → Option (List Nat)} {C : Nat → List Nat} {ep np : Nat} {m : Mp} {D : Dv} {I : Si} {S : St} (h : LimM Y bs w lo b n c s d V C ep np m D I S) {X : List Nat} (ht : Turn X w w') (hX : ∀ x ∈ X, x ∈ I.own m) : Kp Y w w' :=
  ⟨fun y hy => ht.block y (h.out y hy).1 fun hm => (h.out y hy).2 (Si.own_all (hX y hm)), fun a n cap l hl => DevG.nums_turn hl ht fun x hx => h.at_.nou8 x (hX x hx)⟩
theorem LimM.refs {Y : List Nat} {bs : List Addr} {w : World} {lo b n c s d : Nat} {V : Int → Option (List Nat)} {C : Nat → List Nat} {ep np : Nat} {m : Mp} {D : Dv} {I : Si} {S : St} (h : LimM Y bs w lo b n c s d V C ep np m D I S) {r : Ref} (hr : RefOf S r) {i : Nat} (h2 : 2 ≤ i) (he : r.1 = (i : Int)) : r.2 = Crc.sum (C i) ∧ i ∈ used S.tabs S.at_ I.H := by
  rcases hr with hr | ⟨p, hp⟩
  · obtain ⟨t, ht, rfl⟩ := List.mem_iff_getElem.1 hr
    have ht7 : t < 7 := by rw [← h.li.fit.t7]; exact ht
    have e : S.tabs.getD t (0, 0) = S.tabs[t] := by rw [List.getD_eq_getElem?_getD, List.getElem?_eq_getElem ht]; rfl
    cases hh : PgP.has S.at_ t with
    | false =>
      have := h.li.fit.tno t ht7 hh
      rw [e] at this
      rw [this] at he
      simp at he
      omega
    | true =>
      obtain ⟨a, e1, a2, aH, au, hC⟩ := h.li.tab ht7 hh
      rw [e] at e1
      rw [e1] at he ⊢
      have : (a : Int) = (i : Int) := he
      obtain rfl : a = i := by omega
      exact ⟨by rw [hC], au⟩
  · obtain ⟨a, l, h1, rfl, h3, h4, h5⟩ := h.li.fit.old_pg hp
    have : (a : Int) = (i : Int) := he
    obtain rfl : a = i := by omega
    exact ⟨by rw [h5.2], h5.1⟩
end Go.Proofs.YtbjfgdahfpfgdaaGreatDoor.PgW

namespace Go.Proofs.YtbjfgdahfpfgdaaGreatDoor.PgW
open Go Go.RowKit Go.Maps Go.Proofs.YtbjfgdahfpfgdaaGreatDoor.Mem Go.Proofs.YtbjfgdahfpfgdaaGreatDoor.MapsW Go.Proofs.YtbjfgdahfpfgdaaGreatDoor.SeeW Go.Proofs.YtbjfgdahfpfgdaaGreatDoor.DevG Go.Proofs.YtbjfgdahfpfgdaaGreatDoor.PairG Go.Proofs.YtbjfgdahfpfgdaaGreatDoor.RefsW Go.Proofs.YtbjfgdahfpfgdaaGreatDoor.PgP Go.Proofs.YtbjfgdahfpfgdaaGreatDoor.RootP Go.Proofs.YtbjfgdahfpfgdaaGreatDoor.RootW Go.Proofs.YtbjfgdahfpfgdaaGreatDoor.Ints
set_option linter.unusedVariables false
set_option maxRecDepth 100000

/-- all copies are right, laid, not faulted -/
structure LimQ (Y : List Nat) (bs : List Addr) (w : World) (lo b n c s d : Nat) (V : Int → Option (List Nat)) (C : Nat → List Nat) (ep np : Nat) (m : Mp) (D : Dv) (I : Si) (S : St) : Prop where
  li : LimM Y bs w lo b n c s d V C ep np m D I S
  fa : ∀ a, a ∈ used S.tabs S.at_ I.H → D.fa (a : Int) = false ∧ D.fa ((a + I.H : Nat) : Int) = false
  wh : ∀ a, a ∈ used S.tabs S.at_ I.H → Whole I.H S C D a
theorem used_lt {S : St} {H a : Nat} (h : a ∈ used S.tabs S.at_ H) : a < H := (mem_used.1 h).1
theorem cp_sound {D : Dv} {q : Int} {P : List Nat} (h : Cp D q P) (h1 : D.pe q = none) (h2 : D.fa q = false) : Sound D q P := by
  rcases h with h | h | ⟨_, h4, _⟩
  · rw [h1] at h; cases h
  · exact h
  · rw [h2] at h4; cases h4
theorem LimH.flush {Y : List Nat} {bs : List Addr} {w : World} {lo b n c s d : Nat} {V : Int → Option (List Nat)} {C : Nat → List Nat} {ep np K : Nat} (h : LimH Y bs w lo b n c s d V C ep np K) (hn : n < 680000) (hc : c < 700000) (hnp : np < 10000) (hK : GeoW.half b ≤ K) :
    Calls Tryz.prog 41 #[ptr d] w fun e w' => e = .returned .nilIface ∧ (∃ m D I S, LimQ Y bs w' lo b (n + 3 * np) (c + 1) s d V C ep np m D I S) ∧ Below lo w w' ∧ Kp Y w w' := by
  obtain ⟨m, D, I, S, h, hh⟩ := h
  obtain ⟨H2, H5⟩ := h.ok
  have hcl := h.cl
  have hnp2 := h.hnp
  have hic := h.ic
  have hd := h.hd
  have hfu := h.li.fuse
  have hdn : D.tick.down = false := by rw [Dv.tick_zero hfu]; exact h.li.down
  have hf := flush_ok I.d lo n m D w h.at_.pr.dev (by omega) (by omega) (by omega) (by rw [hfu]; decide) hdn
  rw [Dv.tick_zero hfu, hd] at hf
  refine hf.mono ?_
  rintro e w' ⟨rfl, p', hp', ha, ht⟩
  rw [← hd] at ha ht
  have hX : ∀ x ∈ own I.d m, x ∈ I.own m := fun x hx => UpF.own_sub hx
  have hlo : ∀ x ∈ own I.d m, lo ≤ x := fun x hx => h.at_.own_lo x (hX x hx)
  have hpr : PR w' lo I.d (n + 3 * D.np) { m with p := p' } D.flush I.p I.H I.c := h.at_.pr.turn ha ht rfl
  have hk : SAt w' lo (n + 3 * D.np) { m with p := p' } D.flush I S := h.at_.turn (c' := I.c) hpr (ht.mono fun x hx => List.mem_cons_of_mem _ hx) (by omega) (fun x hx => by
    rcases own_p hx with hx | hx
    · exact .inl hx
    · exact .inr (by omega))
  have hlf := h.li.flush
  refine ⟨rfl, ⟨{ m with p := p' }, D.flush, I, S, ⟨h.far (hk.mono (by omega)) hlf rfl rfl rfl rfl (by show D.calls + 1 ≤ _; omega) (Nat.zero_le _) hic ht hlo (Si.all_sub (.inl rfl) (.inl rfl) fun x hx => ?_), fun a ha => ?_, fun a ha => ⟨fun a2 hu => ?_, fun _ e => ?_⟩⟩⟩, ht.below h.los hlo, h.kp ht hX⟩
  · simp only [Si.own, List.mem_cons] at hx ⊢
    rcases hx with e | e | e | e | hx
    · exact .inl (.inl e)
    · exact .inl (.inr (.inl e))
    · exact .inl (.inr (.inr (.inl e)))
    · exact .inl (.inr (.inr (.inr (.inl e))))
    · rcases own_p (d := I.d) (m := m) (p' := p') (List.mem_cons.2 hx) with hx | hx
      · exact .inl (.inr (.inr (.inr (.inr (List.mem_cons.1 hx)))))
      · exact .inr (by omega)
  · have hE := hh a (by have := used_lt ha; rw [h.hH] at this; omega) ha
    exact ⟨hE.c1.flush, hE.c2.flush⟩
  · have hE := hh a (by have := used_lt ha; rw [h.hH] at this; omega) ha
    have hL := hlf.lame a a2 (used_lt ha) hu
    exact ⟨cp_sound hL.c1 rfl hE.c1.flush, cp_sound hL.c2 rfl hE.c2.flush⟩
  · have hE := hh a (by have := used_lt ha; rw [h.hH] at this; omega) ha
    obtain ⟨r1, r2⟩ := hE.rt e
    unfold oneOf at *
    rw [flush_read, flush_read]
    exact ⟨r1, r2⟩
theorem LimM.ref_nat {Y : List Nat} {bs : List Addr} {w : World} {lo b n c s d : Nat} {V : Int → Option (List Nat)} {C : Nat → List Nat} {ep np : Nat} {m : Mp} {D : Dv} {I : Si} {S : St} (h : LimM Y bs w lo b n c s d V C ep np m D I S) {r : Ref} (hr : RefOf S r) (hp : 0 < r.1) : ∃ a : Nat, r.1 = (a : Int) ∧ a ∈ used S.tabs S.at_ I.H := by
  have h2 : 2 ≤ r.1 := by
    rcases hr with hr | ⟨p, hp⟩
    · obtain ⟨t, ht, rfl⟩ := List.mem_iff_getElem.1 hr
      have ht7 : t < 7 := by rw [← h.li.fit.t7]; exact ht
      have e : S.tabs.getD t (0, 0) = S.tabs[t] := by rw [List.getD_eq_getElem?_getD, List.getElem?_eq_getElem ht]; rfl
      cases hh : PgP.has S.at_ t with
      | false =>
        have := h.li.fit.tno t ht7 hh
        rw [e] at this
        rw [this] at hp
        exact absurd hp (by decide)
      | true =>
        obtain ⟨a, e1, a2, aH, au, hC⟩ := h.li.tab ht7 hh
        rw [e] at e1
        rw [e1]
        show (2 : Int) ≤ (a : Int)
        omega
    · obtain ⟨a, l, h1, rfl, h3, h4, h5⟩ := h.li.fit.old_pg hp
      show (2 : Int) ≤ (a : Int)
      omega
  refine ⟨r.1.toNat, by omega, (h.refs hr (i := r.1.toNat) (by omega) (by omega)).2⟩
/-- what is in use -/
theorem LimM.used {Y : List Nat} {bs : List Addr} {w : World} {lo b n c s d : Nat} {V : Int → Option (List Nat)} {C : Nat → List Nat} {ep np : Nat} {m : Mp} {D : Dv} {I : Si} {S : St} (h : LimM Y bs w lo b n c s d V C ep np m D I S) :
    Calls Tryz.prog 42 #[ptr s] w fun e w' => (∃ g cap zs, e = .returned (.slice (some ⟨g, 0, none⟩) zs.length cap) ∧ w'.ownsRow w.heap.size 3 1 (.slice (some ⟨g, 0, none⟩) zs.length cap) zs.length (ints zs) ∧ zs.Pairwise (· < ·) ∧ zs.length ≤ 1000 ∧ ∀ z ∈ zs, ∃ a : Nat, z = (a : Int) ∧ a ∈ PgP.used S.tabs S.at_ I.H) ∧ Below w.heap.size w w' := by
  have hu := used_w lo n m D I S w h.at_ (Fit.ok h.li.fit (by have := h.ok; omega)).2.2
  have hs := h.hs
  obtain ⟨H2, H5⟩ := h.ok
  rw [hs] at hu
  refine hu.mono ?_
  rintro e w' ⟨⟨g, c, zs, he, ho, hp, hz, hl⟩, hb⟩
  refine ⟨⟨g, c, zs, he, ho, hp, hl, fun z hm => ?_⟩, hb⟩
  rcases (hz z).1 hm with (rfl | rfl) | hm | ⟨i, r, h1, h2⟩
  · exact ⟨0, rfl, mem_used.2 ⟨by omega, .inl (by omega)⟩⟩
  · exact ⟨1, rfl, mem_used.2 ⟨by omega, .inl (by omega)⟩⟩
  · unfold tabsOf at hm
    obtain ⟨r, hr, rfl⟩ := List.mem_map.1 hm
    obtain ⟨hr1, hr2⟩ := List.mem_filter.1 hr
    exact h.ref_nat (.inl hr1) (of_decide_eq_true hr2)
  · rw [← h2]
    obtain ⟨a, l, _, rfl, h3, _⟩ := h.li.fit.old_pg h1
    exact h.ref_nat (.inr ⟨i, h1⟩) (by show (0 : Int) < (a : Int); omega)
/-- the device alone -/
theorem LimQ.lame {Y : List Nat} {bs : List Addr} {w : World} {lo b n c s d : Nat} {V : Int → Option (List Nat)} {C : Nat → List Nat} {ep np : Nat} {m : Mp} {D : Dv} {I : Si} {S : St} (h : LimQ Y bs w lo b n c s d V C ep np m D I S) :
    LameAt Y bs w lo b n c d V C ep np m D S ∧ ∀ a, a ∈ used S.tabs S.at_ (GeoW.half b) → Whole (GeoW.half b) S C D a := by
  have hl := h.li
  have hd := hl.hd
  have hH := hl.hH
  have ha := hl.at_.pr.dev
  have hli := hl.li
  have hw := h.wh
  rw [hd] at ha
  rw [hH] at hli hw
  exact ⟨⟨ha, hli, hl.bl, hl.b1, hl.b2, hl.cl, hl.hnp, hl.ev, hl.los, hl.ep, fun y hy => ⟨(hl.out y hy).1, fun hm => (hl.out y hy).2 (Si.own_all (UpF.own_sub (by rw [hd]; exact hm)))⟩⟩, hw⟩
theorem LameAt.turn {Y : List Nat} {bs : List Addr} {w w' : World} {i : Int} {lo b n n' c d : Nat} {V : Int → Option (List Nat)} {C : Nat → List Nat} {ep np : Nat} {m : Mp} {D D' : Dv} {S : St} (h : LameAt Y bs w lo b n c d V C ep np m D S) (ha : At w' lo d n' m D') (hli : Limp (GeoW.half b) S V C D') (hb : But D D' i) (ht : Turn (own d m) w w') : LameAt Y bs w' lo b n' c d V C ep np m D' S ∧ Below lo w w' ∧ Kp Y w w' :=
  ⟨⟨ha, hli, hb.blocks.trans h.bl, h.b1, h.b2, by rw [hb.calls]; exact h.cl, by rw [hb.np]; exact h.np, h.ev.turn ht h.at_.own_lo, Nat.le_trans h.los ht.size, h.ep, fun y hy => ⟨Nat.lt_of_lt_of_le (h.out y hy).1 ht.size, (h.out y hy).2⟩⟩, ht.below h.los h.at_.own_lo, at_kp h.at_ h.out ht⟩
/-- a copy of a whole pair fails -/
theorem LameAt.fail {Y : List Nat} {bs : List Addr} {w : World} {lo b n c d : Nat} {V : Int → Option (List Nat)} {C : Nat → List Nat} {ep np : Nat} {m : Mp} {D : Dv} {S : St} (h : LameAt Y bs w lo b n c d V C ep np m D S) (hn : n < 880000) {k i : Nat} (hk : k < GeoW.half b) (hi : i = k ∨ i = k + GeoW.half b) (hw : Whole (GeoW.half b) S C D k) :
    Calls Tryz.prog 38 #[ptr d, .int .i64 i] w fun e w' => (∃ v, e = .returned v) ∧ LameAt Y bs w' lo b (n + 3) c d V C ep np m (D.fail (i : Int)) S ∧ Below lo w w' ∧ Kp Y w w' := by
  have h5 := GeoW.half_512 b
  have hf := fail_w d lo n m D (i : Int) w h.at_ (fits_nat (by omega)) (by omega)
  refine hf.mono ?_
  rintro e w' ⟨rfl, ha, ht⟩
  exact ⟨⟨_, rfl⟩, h.turn ha (h.li.fail (half_two h.b1).1 hk (by omega) hw) (But.fail D (i : Int)) ht⟩
/-- a copy of a whole pair is turned -/
theorem LameAt.spoil {Y : List Nat} {bs : List Addr} {w : World} {lo b n c d : Nat} {V : Int → Option (List Nat)} {C : Nat → List Nat} {ep np : Nat} {m : Mp} {D : Dv} {S : St} (h : LameAt Y bs w lo b n c d V C ep np m D S) (hn : n < 880000) {k i : Nat} (hk : k < GeoW.half b) (hi : i = k ∨ i = k + GeoW.half b) (hw : Whole (GeoW.half b) S C D k) (hs : k < 2 → Spot D k ∧ Spot D (k + GeoW.half b)) (hy : Crc.Bytes (keptOf D (i : Int))) (p t : Nat) (hp : p ≤ 1000) (ht : t < 4294967296) :
    Calls Tryz.prog 39 #[ptr d, .int .i64 i, .int .i64 p, .int .u32 t] w fun e w' => (∃ v, e = .returned v) ∧ LameAt Y bs w' lo b (n + 3) c d V C ep np m (D.spoil (i : Int) (p : Int) t) S ∧ Below lo w w' ∧ Kp Y w w' := by
  have h5 := GeoW.half_512 b
  have hf := spoil_w d lo n m D (i : Int) (p : Int) t w h.at_ (fits_nat (by omega)) (by omega) (fits_nat (by omega)) ht hy
  refine hf.mono ?_
  rintro e w' ⟨rfl, ha, ht'⟩
  exact ⟨⟨_, rfl⟩, h.turn ha (h.li.spoil (half_two h.b1).1 hk (by omega) hw hs p t ht hy) (But.spoil D (i : Int) (p : Int) t) ht'⟩
/-- the device of a store that has committed all: no pair was faulted -/
theorem Store.left0 {Y : List Nat} {bs : List Addr} {w : World} {lo b n c s d : Nat} {V : Int → Option (List Nat)} {ep : Nat} (h : Store Y bs w lo b n c s d V (fun _ => none) ep) :
    ∃ C m D S, LameAt Y bs w lo b n c d V C ep 0 m D S ∧ Left (GeoW.half b) S C D (fun _ => false) ∧ (ep = 0 → S = St0) := by
  obtain ⟨m, D, I, S, h⟩ := h
  obtain ⟨C, hl, hs⟩ := h.st.limp
  have hS : ({ S with now := fun _ => none } : St) = S := by
    have h1 := h.now
    obtain ⟨ep, rs, tabs, at_, now⟩ := S
    simp only at h1
    subst h1
    rfl
  have hsp := h.st.sp
  have hrt := fun (h0 : 0 < S.ep) => h.st.root.two h0
  have hz := fun (h0 : S.ep = 0) => h.st.zero h0
  rw [hS] at hl hz
  rw [h.hH] at hl hs hsp hrt
  have hcl := h.cl
  have hnp := h.st.idle.np
  refine ⟨C, m, D, S, ⟨by rw [← h.hd]; exact h.at_.pr.dev, hl, h.bl, h.b1, h.b2, by omega, by omega, h.ev, h.los, h.ep, fun y hy => ⟨(h.out y hy).1, fun hm => (h.out y hy).2 (Si.own_all (UpF.own_sub (by rw [h.hd]; exact hm)))⟩⟩, ⟨fun k hk _ => ⟨fun k2 hu => (hs k k2 hk hu).2, fun h0 e => ?_⟩, fun k hk _ => ?_, fun i => h.st.idle.kept i⟩, fun e => hz (h.ep.trans e)⟩
  · rw [e]; exact hrt h0
  · exact ⟨hsp _ (spot_i hk).1, hsp _ (spot_i hk).2⟩
theorem Store.left {Y : List Nat} {bs : List Addr} {w : World} {lo b n c s d : Nat} {V : Int → Option (List Nat)} {ep : Nat} (h : Store Y bs w lo b n c s d V (fun _ => none) ep) (h0 : 0 < ep) :
    ∃ C m D S, LameAt Y bs w lo b n c d V C ep 0 m D S ∧ Left (GeoW.half b) S C D (fun _ => false) := by
  obtain ⟨C, m, D, S, h1, h2, _⟩ := h.left0
  exact ⟨C, m, D, S, h1, h2⟩
end Go.Proofs.YtbjfgdahfpfgdaaGreatDoor.PgW

namespace Go.Proofs.YtbjfgdahfpfgdaaGreatDoor.PgW
open Go Go.RowKit Go.Maps Go.Proofs.YtbjfgdahfpfgdaaGreatDoor.Mem Go.Proofs.YtbjfgdahfpfgdaaGreatDoor.MapsW Go.Proofs.YtbjfgdahfpfgdaaGreatDoor.SeeW Go.Proofs.YtbjfgdahfpfgdaaGreatDoor.DevG Go.Proofs.YtbjfgdahfpfgdaaGreatDoor.PairG Go.Proofs.YtbjfgdahfpfgdaaGreatDoor.RefsW Go.Proofs.YtbjfgdahfpfgdaaGreatDoor.PgP Go.Proofs.YtbjfgdahfpfgdaaGreatDoor.RootP Go.Proofs.YtbjfgdahfpfgdaaGreatDoor.RootW Go.Proofs.YtbjfgdahfpfgdaaGreatDoor.Ints
set_option linter.unusedVariables false
set_option maxRecDepth 100000

theorem LimM.all_lt {Y : List Nat} {bs : List Addr} {w : World} {lo b n c s d : Nat} {V : Int → Option (List Nat)} {C : Nat → List Nat} {ep np : Nat} {m : Mp} {D : Dv} {I : Si} {S : St} (h : LimM Y bs w lo b n c s d V C ep np m D I S) : ∀ x ∈ I.all m, x < w.heap.size := by
  intro x hx
  rcases List.mem_cons.1 hx with e | hx
  · obtain ⟨b', o', e', hc, _⟩ := h.at_.tabs.at (j := 0) (by rw [h.at_.tabs.len]; decide)
    cases e'
    rw [e]
    exact World.block_lt_of_cell? _ _ hc
  · rcases List.mem_append.1 hx with hx | hx
    · obtain ⟨o, e⟩ := mem_raB hx
      exact (h.at_.rx x o e).1
    · exact h.at_.own_lt x hx
theorem LimM.on {Y : List Nat} {bs : List Addr} {w w' : World} {lo b n c s d : Nat} {V : Int → Option (List Nat)} {C : Nat → List Nat} {ep np : Nat} {m : Mp} {D : Dv} {I : Si} {S : St} (h : LimM Y bs w lo b n c s d V C ep np m D I S) (hb : Below w.heap.size w w') : LimM Y bs w' lo b n c s d V C ep np m D I S :=
  h.far (h.at_.below hb) h.li rfl rfl rfl rfl h.cl h.hnp h.ic (Turn.of_below (S := []) hb) (fun x hx => by cases hx) fun x hx => .inl hx
theorem LimM.mono {Y : List Nat} {bs : List Addr} {w : World} {lo b n n' c c' s d : Nat} {V : Int → Option (List Nat)} {C : Nat → List Nat} {ep np np' : Nat} {m : Mp} {D : Dv} {I : Si} {S : St} (h : LimM Y bs w lo b n c s d V C ep np m D I S) (hn : n ≤ n') (hc : c ≤ c') (hp : np ≤ np') : LimM Y bs w lo b n' c' s d V C ep np' m D I S :=
  h.far (h.at_.mono hn) h.li rfl rfl rfl rfl (Nat.le_trans h.cl hc) (Nat.le_trans h.hnp hp) (Nat.le_trans h.ic hp) (Turn.refl [] _) (fun x hx => by cases hx) fun x hx => .inl hx
/-- what is written into another block leaves the store -/
theorem LimM.set {Y : List Nat} {bs : List Addr} {w w' : World} {lo b n c s d : Nat} {V : Int → Option (List Nat)} {C : Nat → List Nat} {ep np : Nat} {m : Mp} {D : Dv} {I : Si} {S : St} (h : LimM Y bs w lo b n c s d V C ep np m D I S) {y : Nat} (ho : y ∉ I.all m) (ht : Turn [y] w w') (hb : NoCells w y ∨ ∃ v, w.cell? ⟨y, 0, none⟩ = some v ∧ ∀ z, v ≠ .int .u8 z) (hl : lo ≤ y) : LimM Y bs w' lo b n c s d V C ep np m D I S := by
  have k := h.at_.away ht (fun x hx => by rw [List.mem_singleton.1 hx]; exact ⟨fun hm => ho (Si.own_all hm), fun e => ho (by rw [e]; exact List.mem_cons_self), fun b o e1 e2 => ho (by rw [e2]; exact List.mem_cons_of_mem _ (List.mem_append.2 (.inl (by unfold raB; rw [e1]; simp))))⟩) (fun x hx => by rw [List.mem_singleton.1 hx]; exact hb)
  exact h.far k h.li rfl rfl rfl rfl h.cl h.hnp h.ic ht (fun x hx => by rw [List.mem_singleton.1 hx]; exact hl) fun x hx => .inl hx
theorem Lim.readM {Y : List Nat} {bs : List Addr} {w : World} {lo b n c s d : Nat} {V : Int → Option (List Nat)} {C : Nat → List Nat} {ep np : Nat} {m : Mp} {D : Dv} {I : Si} {S : St} (h : LimM Y bs w lo b n c s d V C ep np m D I S) (hn : n < 680000) (hc : c < 700000) (hnp : np < 900000) {p : Int} (hp : isP p = true) :
    Calls Tryz.prog 19 #[ptr s, .int .i64 p] w fun e w' => (match V p with
      | none => ∃ a, bs[8]? = some a ∧ e = .returned (.tuple #[.slice none 0 0, ev a])
      | some l => ∃ a cap, e = .returned (.tuple #[.slice a l.length cap, .nilIface]) ∧ Nums .u8 w' a l.length cap l) ∧ (∃ D' c', LimM Y bs w' lo b (n + 1) (c + 1) s d V C ep (np + 1) m D' { I with c := c' } S) ∧ Turn (I.p :: own I.d m) w w' := by
  obtain ⟨p0, p1, hf⟩ := isP_fits hp
  have hth := h.li.there p
  have hcl := h.cl
  have hnp2 := h.hnp
  have hic := h.ic
  have hX : ∀ x ∈ I.p :: own I.d m, lo ≤ x := fun x hx => by
    rcases List.mem_cons.1 hx with rfl | hx
    · exact h.at_.pr.lop
    · exact h.at_.pr.dev.own_lo x hx
  cases hv : V p with
  | none =>
    rw [hv] at hth
    have hr := read_bad bs lo n m D I S p w h.at_ h.ev hf 8 (.inr ⟨hp, hth, rfl⟩)
    rw [h.hs] at hr
    refine hr.mono ?_
    rintro e w' ⟨h1, h2⟩
    exact ⟨h1, ⟨D, I.c, h.far ((h.at_.below h2).mono (by omega)) h.li rfl rfl rfl rfl (by omega) (by omega) (by show I.c ≤ _; omega) (Turn.of_below (S := []) h2) (fun x hx => by cases hx) fun x hx => .inl hx⟩, Turn.of_below h2⟩
  | some l =>
    obtain ⟨a, e1, e2, e3, e4⟩ := h.li.fit.pg p l hv
    have hz := h.li.fit.dom p (by rw [hv]; rfl)
    have e' : S.at_ ((p.toNat : Nat) : Int) = some ((a : Int), Crc.sum (pblk l)) := by rw [show ((p.toNat : Nat) : Int) = p by omega]; exact e1
    have au : a ∈ used S.tabs S.at_ I.H := mem_used.2 ⟨e3, .inr (.inr ⟨p.toNat, by omega, _, e', rfl⟩)⟩
    have hl := h.li.lame a e2 e3 au
    have hput := h.li.put e2 e3 au a (.inl rfl)
    rw [e4] at hl hput
    have hN : S.now p = none := by rw [h.li.now]
    have hrp : ∃ D' c', PairG.readP D I.H I.c a (Crc.sum (pblk l)) = (some (pblk l), D', c') ∧ Limp I.H S V C D' ∧ D'.blocks = D.blocks ∧ D'.calls ≤ D.calls + 1 ∧ D'.np ≤ D.np + 1 ∧ c' ≤ I.c + 1 := by
      rcases hl.readP I.c with ⟨g, _⟩ | ⟨g, _⟩
      · exact ⟨D, I.c, g, h.li, rfl, by omega, by omega, by omega⟩
      · exact ⟨_, _, g, hput, rfl, Nat.le_refl _, put_np D (a : Int) (pblk l), Nat.le_refl _⟩
    obtain ⟨D', c', g, g1, g2, g3, g4, g5⟩ := hrp
    have hr := read_at bs lo n m D D' I S p l a _ c' w h.at_ h.ev hp hN e1 e3 (by omega) (h.li.fit.len p l hv).2.1 h.li.down h.li.fuse h.li.bytes (by omega) (by omega) (by omega) g g2
    rw [h.hs] at hr
    refine hr.mono ?_
    rintro e w' ⟨⟨x, cap, h1, h2, _⟩, k, ht⟩
    exact ⟨⟨x, cap, h1, h2⟩, ⟨D', c', h.far (by have e := h.hs; subst e; exact k) g1 rfl rfl rfl g2 (by omega) (by omega) (by show c' ≤ _; omega) ht hX (Si.all_sub (.inl rfl) (.inl rfl) fun x hx => .inl hx)⟩, ht⟩
theorem LimM.pages {Y : List Nat} {bs : List Addr} {w : World} {lo b n c s d : Nat} {V : Int → Option (List Nat)} {C : Nat → List Nat} {ep np : Nat} {m : Mp} {D : Dv} {I : Si} {S : St} (h : LimM Y bs w lo b n c s d V C ep np m D I S) :
    Calls Tryz.prog 45 #[ptr s] w fun e w' => (∃ a cap, e = .returned (.slice a (there (fun _ => none) V).length cap) ∧ Nums .i64 w' a (there (fun _ => none) V).length cap (there (fun _ => none) V)) ∧ Below w.heap.size w w' := by
  have hp := pages_w lo n m D I S w h.at_
  have e : psOf S 256 = there (fun _ => none) V := by
    unfold psOf there
    refine List.filter_congr fun p _ => ?_
    rw [h.li.there]
    rfl
  rw [e, h.hs] at hp
  exact hp
theorem own_far {X : List Nat} {w w' : World} {base : Nat} {e : TypeId} {size : Nat} {v : Value} {n : Nat} {xs : List Value} (h : w.ownsRow base e size v n xs) (ht : Turn X w w') (hX : ∀ x ∈ X, x < base) : w'.ownsRow base e size v n xs := by
  rcases h with ⟨h1, ⟨rfl, h2⟩ | ⟨g, c, cur, rfl, hb, hc, q⟩⟩
  · exact ⟨h1, .inl ⟨rfl, h2⟩⟩
  · exact ⟨h1, .inr ⟨g, c, cur, rfl, hb, (ht.block g (Array.getElem?_eq_some_iff.1 hc).1 fun hm => by have := hX g hm; omega).trans hc, q⟩⟩
end Go.Proofs.YtbjfgdahfpfgdaaGreatDoor.PgW
namespace Go.Proofs.YtbjfgdahfpfgdaaGreatDoor.PgW
open Go Go.RowKit Go.Maps Go.Proofs.YtbjfgdahfpfgdaaGreatDoor.Mem Go.Proofs.YtbjfgdahfpfgdaaGreatDoor.MapsW Go.Proofs.YtbjfgdahfpfgdaaGreatDoor.SeeW Go.Proofs.YtbjfgdahfpfgdaaGreatDoor.DevG Go.Proofs.YtbjfgdahfpfgdaaGreatDoor.PairG Go.Proofs.YtbjfgdahfpfgdaaGreatDoor.RefsW Go.Proofs.YtbjfgdahfpfgdaaGreatDoor.PgP Go.Proofs.YtbjfgdahfpfgdaaGreatDoor.RootP Go.Proofs.YtbjfgdahfpfgdaaGreatDoor.RootW Go.Proofs.YtbjfgdahfpfgdaaGreatDoor.Ints
set_option linter.unusedVariables false
/-- a row of one's own beside the store grows -/
theorem LimM.push {Y : List Nat} {bs : List Addr} {w2 w3 : World} {lo b n c s d : Nat} {V : Int → Option (List Nat)} {C : Nat → List Nat} {ep np : Nat} {m : Mp} {D : Dv} {I : Si} {S : St} (h : LimM Y bs w2 lo b n c s d V C ep np m D I S) {o : Obj} {base : Nat} {e : TypeId} {v : Value} {k : Nat} {xs : List Value}
    (hall : ∀ x ∈ I.all m, x < base) (hlo : lo ≤ base) (own : w2.ownsRow base e 1 v k xs) (hnil : k = 0 → v.ownBlock = none) (hint : ∀ u ∈ xs, ∀ z, u ≠ .int .u8 z) (hg : (w2.alloc o).grownBy w3 v.ownBlock) :
    LimM Y bs w3 lo b n c s d V C ep np m D I S ∧ ∀ (X : List Nat) (w : World), Turn X w w2 → w.heap.size ≤ base → Turn X w w3 := by
  have ha := h.on ((Below.refl w2.heap.size w2).alloc (Nat.le_refl _) o)
  have hta : Turn [] w2 (w2.alloc o) := Turn.of_below ((Below.refl w2.heap.size w2).alloc (Nat.le_refl _) o)
  have owna := own.alloc o
  rcases own with ⟨h1, ⟨rfl, h2⟩ | ⟨g, cp, cur, rfl, hb, hc, q⟩⟩
  · have hb3 : Below (w2.alloc o).heap.size (w2.alloc o) w3 := (Below.refl _ _).grown hg (Nat.le_refl _) (fun j hj => by cases hj)
    exact ⟨ha.on hb3, fun X w ht _ => (ht.trans hta (fun x hx => by cases hx)).then (Turn.of_below hb3)⟩
  · have ht : Turn [g] (w2.alloc o) w3 := Turn.of_grown hg (by simp)
    have hk : k ≠ 0 := fun e => by have := hnil e; cases this
    have hx : ∃ u, xs[0]? = some u ∧ u ∈ xs := by
      have hl : xs.length = k * 1 := h1
      cases xs with
      | nil => simp at hl; omega
      | cons u xs => exact ⟨u, rfl, by simp⟩
    obtain ⟨u, hu, hm⟩ := hx
    obtain ⟨va, vc, e1, hr⟩ := ownsRow_slice owna
    cases e1
    have h0 := Row.cell hr (j := 0) hu
    refine ⟨ha.set (fun hm' => by have := hall g hm'; omega) ht (.inr ⟨u, h0, fun z => hint u hm z⟩) (by omega), fun X w hw hB => (hw.trans hta (fun x hx => by cases hx)).trans ht fun x hx => .inr ?_⟩
    rw [List.mem_singleton.1 hx]
    omega
end Go.Proofs.YtbjfgdahfpfgdaaGreatDoor.PgW

namespace Go.Proofs.YtbjfgdahfpfgdaaGreatDoor.KeepW
open Go Go.RowKit Go.Maps Go.Proofs.YtbjfgdahfpfgdaaGreatDoor.Mem Go.Proofs.YtbjfgdahfpfgdaaGreatDoor.MapsW Go.Proofs.YtbjfgdahfpfgdaaGreatDoor.DevG Go.Proofs.YtbjfgdahfpfgdaaGreatDoor.Text Go.Proofs.YtbjfgdahfpfgdaaGreatDoor.KeepP Go.Proofs.YtbjfgdahfpfgdaaGreatDoor.SeeW Go.Proofs.YtbjfgdahfpfgdaaGreatDoor.PgP Go.Proofs.YtbjfgdahfpfgdaaGreatDoor.PgW
set_option linter.unusedVariables false
set_option maxRecDepth 100000

/-- a keep while it is read: j pages so far -/
structure KO (w : World) (base s k l n : Nat) (F : List UInt8 → Option (List Nat)) (np : Nat) (pv : Value) (j : Nat) (vs : List Value) : Prop where
  cells : w.heap[k]? = some (.cells #[ptr s, .map (some l), .map none, pv] 129)
  at_ : KAt w base k l n F np
  own : w.ownsRow base 35 1 pv j vs
  nil : vs = [] → pv = .slice none 0 0
  nou : ∀ u ∈ vs, ∀ z, u ≠ .int .u8 z
  bk : base ≤ k
theorem KO.lt {w : World} {base s k l n : Nat} {F : List UInt8 → Option (List Nat)} {np : Nat} {pv : Value} {j : Nat} {vs : List Value} (h : KO w base s k l n F np pv j vs) : k < w.heap.size := (Array.getElem?_eq_some_iff.1 h.cells).1
theorem KO.kl {w : World} {base s k l n : Nat} {F : List UInt8 → Option (List Nat)} {np : Nat} {pv : Value} {j : Nat} {vs : List Value} (h : KO w base s k l n F np pv j vs) : k ≠ l ∧ NoCells w l := by
  obtain ⟨es, ck, hm⟩ := h.at_.map.block
  refine ⟨fun e => ?_, fun c t f e => ?_⟩
  · have := h.cells
    rw [e, hm] at this; cases this
  · rw [hm] at e; cases e
theorem KO.below {w w' : World} {base s k l n : Nat} {F : List UInt8 → Option (List Nat)} {np : Nat} {pv : Value} {j : Nat} {vs : List Value} (h : KO w base s k l n F np pv j vs) (hb : Below w.heap.size w w') : KO w' base s k l n F np pv j vs :=
  ⟨(hb.block k h.lt).trans h.cells, h.at_.below hb, ownsRow_below h.own hb, h.nil, h.nou, h.bk⟩
/-- what is elder than the keep was changed -/
theorem KO.turn {w w' : World} {base s k l n : Nat} {F : List UInt8 → Option (List Nat)} {np : Nat} {pv : Value} {j : Nat} {vs : List Value} (h : KO w base s k l n F np pv j vs) {X : List Nat} (ht : Turn X w w') (hX : ∀ x ∈ X, x < base) (hu : ∀ x ∈ X, ∀ off z, w.cell? ⟨x, off, none⟩ ≠ some (.int .u8 z)) : KO w' base s k l n F np pv j vs := by
  have hk := ht.block k h.lt fun hm => by have := hX k hm; have := h.bk; omega
  exact ⟨hk.trans h.cells, ⟨(World.cell?_of_block hk).trans h.at_.c1, h.at_.bl, TextMap.kp h.at_.map (ht.block l h.at_.lt fun hm => by have := hX l hm; have := h.at_.bl; omega) fun a n c xs hl => DevG.nums_turn hl ht hu⟩, own_far h.own ht hX, h.nil, h.nou, h.bk⟩
/-- a pair is put into its map -/
theorem KO.store {w w' : World} {base s k l n n' : Nat} {F F' : List UInt8 → Option (List Nat)} {np np' : Nat} {pv : Value} {j : Nat} {vs : List Value} (h : KO w base s k l n F np pv j vs) (hr : TextMap w' base l n' F' np') (hg : w.grownBy w' (some l)) : KO w' base s k l n' F' np' pv j vs := by
  have k1 := h.kl
  refine ⟨(hg.block k h.lt fun e => k1.1 (Option.some.inj e)).trans h.cells, h.at_.put hr hg, ?_, h.nil, h.nou, h.bk⟩
  obtain ⟨es, ck, hm⟩ := h.at_.map.block
  rcases h.own with ⟨h1, ⟨e, h2⟩ | ⟨g, c, cur, e, hb, hc, q⟩⟩
  · exact ⟨h1, .inl ⟨e, h2⟩⟩
  · exact ⟨h1, .inr ⟨g, c, cur, e, hb, (hg.block g (Array.getElem?_eq_some_iff.1 hc).1 fun e => by
      rw [Option.some.inj e, hm] at hc; cases hc).trans hc, q⟩⟩
/-- the row of its pages is no other block -/
theorem KO.apart {w : World} {base s k l n : Nat} {F : List UInt8 → Option (List Nat)} {np : Nat} {pv : Value} {j : Nat} {vs : List Value} (h : KO w base s k l n F np pv j vs) {x : Nat} {ob : Obj} (hx : w.heap[x]? = some ob) (hn : ∀ cur, ob ≠ .cells cur 35) : pv.ownBlock ≠ some x := by
  rcases h.own with ⟨h1, ⟨rfl, h2⟩ | ⟨g, c, cur, rfl, hb, hc, q⟩⟩
  · intro e; cases e
  · intro e
    have e : g = x := Option.some.inj e
    rw [e, hx] at hc
    exact hn _ (Option.some.inj hc)
theorem KO.apart8 {w : World} {base s k l n : Nat} {F : List UInt8 → Option (List Nat)} {np : Nat} {pv : Value} {j : Nat} {vs : List Value} (h : KO w base s k l n F np pv j vs) {x : Nat} {z : Int} (hx : w.cell? ⟨x, 0, none⟩ = some (.int .u8 z)) : pv.ownBlock ≠ some x := by
  have hnil := h.nil
  have hnou := h.nou
  have own := h.own
  rcases h.own with ⟨h1, ⟨rfl, h2⟩ | ⟨g, c, cur, rfl, hb, hc, q⟩⟩
  · intro e; cases e
  · intro e
    have e : g = x := Option.some.inj e
    cases vs with
    | nil => cases hnil rfl
    | cons u r =>
      obtain ⟨va, vc, e1, hr⟩ := ownsRow_slice own
      cases e1
      have h0 := Row.cell hr (j := 0) rfl
      rw [← e, h0] at hx
      exact hnou u (by simp) z (Option.some.inj hx)
/-- the row of its pages grows -/
theorem KO.grow {w w' : World} {base s k l n : Nat} {F : List UInt8 → Option (List Nat)} {np : Nat} {pv : Value} {j : Nat} {vs : List Value} (h : KO w base s k l n F np pv j vs) (hg : w.grownBy w' pv.ownBlock) :
    w'.heap[k]? = some (.cells #[ptr s, .map (some l), .map none, pv] 129) ∧ KAt w' base k l n F np := by
  have e1 := (hg.block k h.lt (Ne.symm (h.apart h.cells fun cur e => by cases e))).trans h.cells
  obtain ⟨es, ck, hm⟩ := h.at_.map.block
  refine ⟨e1, by simp [World.cell?, e1], h.at_.bl, h.at_.map.keep (hg.block l h.at_.lt (Ne.symm (h.apart hm fun cur e => by cases e))) fun g _ hc hz => ?_⟩
  obtain ⟨c, t, f, hc⟩ := hc
  obtain ⟨z, hz⟩ := hz
  exact hg.block g (Array.getElem?_eq_some_iff.1 hc).1 (Ne.symm (h.apart8 hz))
/-- a page is told of -/
theorem KO.push {w w' : World} {base s k l n : Nat} {F : List UInt8 → Option (List Nat)} {np : Nat} {pv pv' : Value} {j j' : Nat} {vs vs' : List Value} (h : KO w base s k l n F np pv j vs) (hg : w.grownBy w' pv.ownBlock) (own : w'.ownsRow base 35 1 pv' j' vs') (hn : vs' = [] → pv' = .slice none 0 0) (hu : ∀ u ∈ vs', ∀ z, u ≠ .int .u8 z) :
    KO (w'.setCell ⟨k, 3, none⟩ pv') base s k l n F np pv' j' vs' ∧ Turn [k] w' (w'.setCell ⟨k, 3, none⟩ pv') := by
  obtain ⟨e1, hA⟩ := h.grow hg
  have ht : Turn [k] w' (w'.setCell ⟨k, 3, none⟩ pv') := Turn.setCell w' k 3 _ (by simp)
  have hc2 : (w'.setCell ⟨k, 3, none⟩ pv').heap[k]? = some (.cells #[ptr s, .map (some l), .map none, pv'] 129) := by simp [World.setCell, Array.getElem?_modify, e1]
  obtain ⟨es, ck, hm⟩ := hA.map.block
  have k1 := h.kl.1
  refine ⟨⟨hc2, ⟨by simp [World.cell?, hc2], h.at_.bl, hA.map.keep (ht.block l hA.lt (by simpa using Ne.symm k1)) fun g _ hc hz => ?_⟩, ?_, hn, hu, h.bk⟩, ht⟩
  · obtain ⟨c, t, f, hc⟩ := hc
    refine ht.block g (Array.getElem?_eq_some_iff.1 hc).1 fun e => ?_
    obtain ⟨z, hz⟩ := hz
    rw [List.mem_singleton.1 e] at hz
    simp [World.cell?, e1] at hz
  · rcases own with ⟨h1, ⟨e, h2⟩ | ⟨g, c, cur, e, hb, hc, q⟩⟩
    · exact ⟨h1, .inl ⟨e, h2⟩⟩
    · exact ⟨h1, .inr ⟨g, c, cur, e, hb, (ht.block g (Array.getElem?_eq_some_iff.1 hc).1 fun e => by
        rw [List.mem_singleton.1 e, e1] at hc; cases hc).trans hc, q⟩⟩
/-- pairs' bytes are not where the map is -/
theorem Bt.grown {w w' : World} {l : Nat} (hm : ∃ es ck, w.heap[l]? = some (.map es ck)) (hg : w.grownBy w' (some l)) {v : Value} {x : List Nat} (h : Bt w v x) : Bt w' v x := by
  obtain ⟨g, cap, h1, h2, h3⟩ := h
  obtain ⟨es, ck, hm⟩ := hm
  obtain ⟨c, t, f, hc⟩ := nums_cells h2 h3
  refine ⟨g, cap, h1, nums_of_cells h2 (hg.block g (Array.getElem?_eq_some_iff.1 hc).1 fun e => ?_), h3⟩
  rw [Option.some.inj e, hm] at hc
  cases hc
/-- a key that a map has not, asked for with ok -/
theorem TextMap.look_no {w : World} {base b n : Nat} {F : List UInt8 → Option (List Nat)} {np : Nat} (h : TextMap w base b n F np) {K : List UInt8} (hs : K.length ≤ 40) (hF : F K = none) :
    (Instr.lookup 126 (.map (some b)) (.string ⟨K.toArray⟩) true).run Tryz.prog w = .ok (.tuple #[.slice none 0 0, .bool false]) w := by
  obtain ⟨D, h1, _, h3⟩ := h
  have := h3 K
  rw [hF] at this
  obtain ⟨v, ps, hr, hv⟩ := h1.look_ok lawS Tryz.underlying126 (zeroRow w) (zd := .nil) (zp := []) rfl (keyS (s := ⟨K.toArray⟩) (by show K.toArray.size ≤ maxLen; simp; unfold maxLen; omega))
  rw [this] at hr
  rw [atKey_of_not_has this] at hv
  rw [rowR_nil hv] at hr
  exact hr
/-- the pages of pages one behind the other -/
theorem there_of (ps : List (List Nat)) (h : ps.length ≤ 256) : there (fun _ => none) (PgOf ps) = List.range ps.length := by
  unfold there
  have e : ∀ p : Nat, (view (fun _ => none) (PgOf ps) (p : Int)).isSome = decide (p < ps.length) := fun p => by
    show (PgOf ps (p : Int)).isSome = _
    rw [PgOf.at]
    by_cases hp : p < ps.length
    · rw [List.getElem?_eq_getElem hp, decide_eq_true hp]; rfl
    · rw [List.getElem?_eq_none (by omega), decide_eq_false hp]; rfl
  rw [List.filter_congr (q := fun p => decide (p < ps.length)) fun p _ => e p]
  have hr : List.range 256 = List.range ps.length ++ (List.range (256 - ps.length)).map (ps.length + ·) := by rw [← List.range_add]; congr 1; omega
  rw [hr, List.filter_append, List.filter_eq_self.2 fun p hp => decide_eq_true (List.mem_range.1 hp), List.filter_eq_nil_iff.2 fun p hp => by
    obtain ⟨i, _, rfl⟩ := List.mem_map.1 hp
    simp, List.append_nil]
end Go.Proofs.YtbjfgdahfpfgdaaGreatDoor.KeepW

namespace Go.Proofs.YtbjfgdahfpfgdaaGreatDoor.PgW
open Go Go.RowKit Go.Maps Go.Proofs.YtbjfgdahfpfgdaaGreatDoor.Mem Go.Proofs.YtbjfgdahfpfgdaaGreatDoor.MapsW Go.Proofs.YtbjfgdahfpfgdaaGreatDoor.SeeW Go.Proofs.YtbjfgdahfpfgdaaGreatDoor.DevG Go.Proofs.YtbjfgdahfpfgdaaGreatDoor.PairG Go.Proofs.YtbjfgdahfpfgdaaGreatDoor.RefsW Go.Proofs.YtbjfgdahfpfgdaaGreatDoor.PgP Go.Proofs.YtbjfgdahfpfgdaaGreatDoor.ConcatW
set_option linter.unusedVariables false
set_option maxRecDepth 100000

set_option maxHeartbeats 3200000 in
theorem pagesO_w (lo n : Nat) (m : Mp) (D : Dv) (I : Si) (S : St) (w : World) (k : SAt w lo n m D I S) :
    Calls Tryz.prog 45 #[ptr I.s] w fun e w' => (∃ a c, e = .returned (.slice a (psOf S 256).length c) ∧ w'.ownsRow w.heap.size 3 1 (.slice a (psOf S 256).length c) (psOf S 256).length (nums .i64 (psOf S 256))) ∧ Below w.heap.size w w' := by
  have HK := hid k
  have HS := hid (psOf_succ S)
  have HL := hid (psOf_le S)
  have h0 : psOf S 0 = [] := rfl
  generalize hps : psOf S = ps at *
  clear k hps
  go_enter Tryz.func45, Tryz.ntmps45
  go_wp2
  go_loopw [3, 5] (fun v i wr => ∃ j : Nat, j ≤ 256 ∧ i = .int .i64 j ∧ wr.ownsRow w.heap.size 3 1 v (ps j).length (nums .i64 (ps j)) ∧ Below w.heap.size w wr) (fun _ i _ => 256 - (RowKit.intOf i).toNat)
  case atStart => exact ⟨0, by omega, rfl, by rw [h0]; exact World.ownsRow_nil _ _ _ _, Below.refl _ _⟩
  case round =>
    obtain ⟨j, hj, rfl, own, hb⟩ := hrel
    have HB := hid hb
    by_cases hlt : j < 256
    · have ht := there_w lo n m D I S j wr (HK.out.below hb) (by unfold Fits; omega)
      have hs := HS.out j
      have hle := HL.out j
      obtain ⟨va, vc, rfl, hvr⟩ := ownsRow_slice own
      cases hc : S.there (j : Int) with
      | false =>
        rw [hc] at hs ht
        have hs' : ps (j + 1) = ps j := by rw [hs]; simp
        clear hb hle hc hvr hs
        go_wp2_with (refine ht.mono ?_; rintro e w' ⟨rfl, rfl⟩)
        go_roundw
        case rel => exact ⟨j + 1, by omega, by go_num, by rw [hs']; exact own, HB.out⟩
        case measure => simp [RowKit.intOf]; omega
      | true =>
        rw [hc] at hs ht
        have hs' : ps (j + 1) = ps j ++ [j] := by rw [hs]; simp
        have HS' := hid hs'
        have hz := hb.size
        clear hc hvr hs hs' hb
        go_wp2_with fail
        refine ht.mono ?_
        rintro e w' ⟨rfl, rfl⟩
        go_wp2_with (at_builtin; go_must (refine wpList_push elInt rfl _ _ rfl w.heap.size _ _ _ rfl (own.alloc _) w'.heap.size (.int .i64 (j : Int)) rfl (by simp) rfl (by unfold maxLen; omega) (by omega) (by simp; omega) ?_); intro v3 w3 o3 hb3 hg3)
        go_roundw
        case rel => exact ⟨j + 1, by omega, by go_num, by rw [HS'.out, List.length_append]; simpa [nums] using o3, HB.out.trans (((Below.refl _ _).alloc hz _).trans hb3)⟩
        case measure => simp [RowKit.intOf]; omega
    · obtain rfl : j = 256 := by omega
      obtain ⟨va, vc, rfl, hvr⟩ := ownsRow_slice own
      have HOwn := hid own
      clear own
      go_wp2
      go_ret
      exact ⟨⟨va, vc, rfl, HOwn.out⟩, HB.out⟩
theorem LimM.pagesO {Y : List Nat} {bs : List Addr} {w : World} {lo b n c s d : Nat} {V : Int → Option (List Nat)} {C : Nat → List Nat} {ep np : Nat} {m : Mp} {D : Dv} {I : Si} {S : St} (h : LimM Y bs w lo b n c s d V C ep np m D I S) :
    Calls Tryz.prog 45 #[ptr s] w fun e w' => (∃ a cap, e = .returned (.slice a (there (fun _ => none) V).length cap) ∧ w'.ownsRow w.heap.size 3 1 (.slice a (there (fun _ => none) V).length cap) (there (fun _ => none) V).length (nums .i64 (there (fun _ => none) V))) ∧ Below w.heap.size w w' := by
  have hp := pagesO_w lo n m D I S w h.at_
  have e : psOf S 256 = there (fun _ => none) V := by
    unfold psOf there
    refine List.filter_congr fun p _ => ?_
    rw [h.li.there]
    rfl
  rw [e, h.hs] at hp
  exact hp
end Go.Proofs.YtbjfgdahfpfgdaaGreatDoor.PgW
