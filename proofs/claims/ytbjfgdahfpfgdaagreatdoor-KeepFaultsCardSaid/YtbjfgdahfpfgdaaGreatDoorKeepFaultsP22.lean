/- Plain laws of a keep read from its pages: what a list of pairs says; A pair mended; Plain facts about what a device holds: each row is a block's bytes; Plain facts: a copy of a pair, whatever was done to it (the plain half of XGPairCp); The walk of a pair's Mend over a store; The walk of a store's Heal, of a block that is no root's; Plain facts: pairs of which one copy may be wrong; Plain facts: a store over a device of which one copy of each pair may be wrong; its tables read; Plain facts: the root made whole over a device of which copies are wrong; The walks of page's nothing and right; Plain facts: what Heal leaves of a device of which copies are wrong; The walk of a store's healRoot; A store over a device of which copies are wrong: opened. -/
import Derived.Test.YtbjfgdahfpfgdaaGreatDoorKeepFaultsP7
import Derived.Test.YtbjfgdahfpfgdaaGreatDoorKeepFaultsP9
import Derived.Test.YtbjfgdahfpfgdaaGreatDoorKeepFaultsP3
import Derived.Test.YtbjfgdahfpfgdaaGreatDoorKeepFaultsP12
import Derived.Test.YtbjfgdahfpfgdaaGreatDoorKeepFaultsP14
import Derived.Test.YtbjfgdahfpfgdaaGreatDoorKeepFaultsP16
import Derived.Deep.RegionHeld3
import Derived.Test.YtbjfgdahfpfgdaaGreatDoorKeepFaultsP19
import Derived.Test.YtbjfgdahfpfgdaaGreatDoorKeepFaultsP20
import Derived.Test.YtbjfgdahfpfgdaaGreatDoorKeepFaultsP5
import Derived.Test.YtbjfgdahfpfgdaaGreatDoorKeepFaultsP4
namespace Go.Proofs.YtbjfgdahfpfgdaaGreatDoor.KeepP
open Go Go.RowKit Go.Maps Go.Proofs.YtbjfgdahfpfgdaaGreatDoor.Mem Go.Proofs.YtbjfgdahfpfgdaaGreatDoor.MapsW Go.Proofs.YtbjfgdahfpfgdaaGreatDoor.Text
set_option linter.unusedVariables false

theorem snocInd {α : Type} {P : List α → Prop} (h0 : P []) (h1 : ∀ l a, P l → P (l ++ [a])) (l : List α) : P l := by
  have h : ∀ r : List α, P r.reverse := fun r => by
    induction r with
    | nil => exact h0
    | cons a r ih => rw [List.reverse_cons]; exact h1 _ _ ih
  have := h l.reverse
  rwa [List.reverse_reverse] at this
/-- what pairs say, the later above the elder -/
def Fof (l : List Kv) : List UInt8 → Option (List Nat) := l.foldl (fun F p => updS F p.1 (some p.2)) fun _ => none
theorem Fof.nil : Fof [] = fun _ => none := rfl
theorem Fof.snoc (l : List Kv) (p : Kv) : Fof (l ++ [p]) = updS (Fof l) p.1 (some p.2) := by unfold Fof; rw [List.foldl_append]; rfl
theorem Fof.none {l : List Kv} {K : List UInt8} : K ∉ l.map Prod.fst → Fof l K = none := by
  refine snocInd (P := fun l => K ∉ l.map Prod.fst → Fof l K = Option.none) (fun _ => rfl) (fun l p ih => ?_) l
  · intro h
    rw [Fof.snoc, updS_other _ _ fun e => h (by rw [e]; simp)]
    exact ih fun hm => h (by rw [List.map_append]; exact List.mem_append_left _ hm)
theorem Fof.at {l : List Kv} {p : Kv} : (l.map Prod.fst).Nodup → p ∈ l → Fof l p.1 = some p.2 := by
  refine snocInd (P := fun l => (l.map Prod.fst).Nodup → p ∈ l → Fof l p.1 = some p.2) (fun _ h => by cases h) (fun l q ih => ?_) l
  · intro hn h
    rw [List.map_append, List.nodup_append] at hn
    obtain ⟨h1, _, h3⟩ := hn
    rw [Fof.snoc]
    rcases List.mem_append.1 h with h | h
    · rw [updS_other _ _ fun e => h3 _ (List.mem_map_of_mem h) q.1 (by simp) e]
      exact ih h1 h
    · rw [List.mem_singleton.1 h, updS_same]
/-- the pairs of a map say the map -/
theorem Fof.kvs {F : List UInt8 → Option (List Nat)} {ks : List (List UInt8)} (h : SKeys F ks) : Fof (KeepW.kvs F ks) = F := by
  have hk : (KeepW.kvs F ks).map Prod.fst = ks := by unfold KeepW.kvs; rw [List.map_map]; exact List.map_id' _
  have hn : ks.Nodup := h.rise.imp fun h e => by
    rw [e] at h
    exact List.lt_irrefl _ h
  funext K
  cases hF : F K with
  | none =>
    refine Fof.none ?_
    rw [hk]
    intro hm
    have := (h.mem K).1 hm
    rw [hF] at this
    cases this
  | some x =>
    have hm : (K, x) ∈ KeepW.kvs F ks := by
      unfold KeepW.kvs
      exact List.mem_map.2 ⟨K, (h.mem K).2 (by rw [hF]; rfl), by rw [hF]; rfl⟩
    exact Fof.at (by rw [hk]; exact hn) hm
/-- keys that are not twice: the next is new -/
theorem fresh_key {gs : List (List Kv)} {j : Nat} {g : List Kv} {t : Nat} {K : List UInt8} {x : List Nat} (hd : (gs.flatten.map Prod.fst).Nodup) (h1 : gs.take (j + 1) = gs.take j ++ [g]) (h2 : g.take (t + 1) = g.take t ++ [(K, x)]) :
    K ∉ ((gs.take j).flatten ++ g.take t).map Prod.fst := by
  have a : gs.flatten = (gs.take (j + 1)).flatten ++ (gs.drop (j + 1)).flatten := by rw [← List.flatten_append, List.take_append_drop]
  have b : g.take t ++ ([(K, x)] ++ g.drop (t + 1)) = g := by rw [← List.append_assoc, ← h2, List.take_append_drop]
  have e : gs.flatten = ((gs.take j).flatten ++ g.take t) ++ ([(K, x)] ++ g.drop (t + 1) ++ (gs.drop (j + 1)).flatten) := by
    rw [a, h1, List.flatten_append, List.flatten_singleton, List.append_assoc, List.append_assoc, ← List.append_assoc (g.take t), b]
  rw [e, List.map_append, List.nodup_append] at hd
  exact fun hm => hd.2.2 K hm K (by simp) rfl
end Go.Proofs.YtbjfgdahfpfgdaaGreatDoor.KeepP

namespace Go.Proofs.YtbjfgdahfpfgdaaGreatDoor.PairG
open Go Go.RowKit Go.Maps Go.Proofs.YtbjfgdahfpfgdaaGreatDoor.Mem Go.Proofs.YtbjfgdahfpfgdaaGreatDoor.MapsW Go.Proofs.YtbjfgdahfpfgdaaGreatDoor.SeeW Go.Proofs.YtbjfgdahfpfgdaaGreatDoor.DevG
set_option linter.unusedVariables false
set_option maxRecDepth 100000

end Go.Proofs.YtbjfgdahfpfgdaaGreatDoor.PairG

namespace Go.Proofs.YtbjfgdahfpfgdaaGreatDoor.DevG
open Go Go.Maps Go.Proofs.YtbjfgdahfpfgdaaGreatDoor.MapsW

/-- a block's bytes -/
def Blk (l : List Nat) : Prop := Crc.Bytes l ∧ l.length = 256
structure Ok (D : Dv) : Prop where
  fl : ∀ j l, D.fl j = some l → Blk l
  pe : ∀ j l, D.pe j = some l → Blk l
theorem Ok.new (b : Nat) : Ok (Dv.new b) := ⟨fun j l h => (by cases h), fun j l h => (by cases h)⟩
theorem Ok.put {D : Dv} (h : Ok D) {i : Int} {l : List Nat} (hl : Blk l) : Ok (D.put i l) := by
  refine ⟨h.fl, fun j l' hj => ?_⟩
  by_cases e : j = i
  · subst e
    rw [show (D.put j l).pe j = some l from upd_same _ _ _] at hj
    cases hj
    exact hl
  · rw [show (D.put i l).pe j = D.pe j from upd_other _ _ e] at hj
    exact h.pe j l' hj
theorem Ok.flush {D : Dv} (h : Ok D) : Ok D.flush := by
  refine ⟨fun j l hj => ?_, fun j l hj => (by cases hj)⟩
  change (if (D.pe j).isSome then D.pe j else D.fl j) = some l at hj
  split at hj
  · exact h.pe j l hj
  · exact h.fl j l hj
theorem Ok.kept {D : Dv} (h : Ok D) (i : Int) : Blk (keptOf D i) := by
  unfold keptOf
  cases hF : D.fl i with
  | none => exact ⟨Crc.zeros_bytes 256, List.length_replicate ..⟩
  | some l => exact h.fl i l hF
theorem Ok.spoil {D : Dv} (h : Ok D) (i at_ : Int) (t : Nat) : Ok (D.spoil i at_ t) := by
  unfold Dv.spoil
  split
  · refine ⟨fun j l hj => ?_, h.pe⟩
    change upd D.fl i (some _) j = some l at hj
    by_cases e : j = i
    · subst e
      rw [upd_same] at hj
      cases hj
      exact ⟨Crc.turned_bytes (h.kept j).1 at_ t, by rw [Crc.turned_length]; exact (h.kept j).2⟩
    · rw [upd_other _ _ e] at hj
      exact h.fl j l hj
  · exact h
theorem Ok.fail {D : Dv} (h : Ok D) (i : Int) : Ok (D.fail i) := by
  unfold Dv.fail
  split
  · exact ⟨h.fl, h.pe⟩
  · exact h
theorem Ok.read {D : Dv} (h : Ok D) {j : Int} {l : List Nat} (hj : D.read j = some l) : Blk l := by
  unfold Dv.read at hj
  cases hp : D.pe j with
  | some l' => rw [hp] at hj; cases hj; exact h.pe j _ hp
  | none =>
    rw [hp] at hj
    simp only at hj
    split at hj
    · cases hj
    · cases hj; exact h.kept j
/-- what is read where nothing is pending -/
theorem read_flushed {D : Dv} {j : Int} (hp : D.pe j = none) (hi : D.fi j = false) : D.read j = some (keptOf D j) := by
  unfold Dv.read; rw [hp]; simp only; rw [hi]; rfl
theorem read_pending {D : Dv} {j : Int} {l : List Nat} (hp : D.pe j = some l) : D.read j = some l := by
  unfold Dv.read; rw [hp]
theorem read_failed {D : Dv} {j : Int} (hp : D.pe j = none) (hi : D.fi j = true) : D.read j = none := by
  unfold Dv.read; rw [hp]; simp only; rw [hi]; rfl
end Go.Proofs.YtbjfgdahfpfgdaaGreatDoor.DevG

namespace Go.Proofs.YtbjfgdahfpfgdaaGreatDoor.PairG
open Go Go.RowKit Go.Maps Go.Proofs.YtbjfgdahfpfgdaaGreatDoor.Mem Go.Proofs.YtbjfgdahfpfgdaaGreatDoor.MapsW Go.Proofs.YtbjfgdahfpfgdaaGreatDoor.SeeW Go.Proofs.YtbjfgdahfpfgdaaGreatDoor.DevG
set_option linter.unusedVariables false
set_option maxRecDepth 100000

theorem kept_of {E : Dv} {i : Int} {l : List Nat} (h : E.fl i = some l) : keptOf E i = l := by unfold keptOf; rw [h]; rfl
/-- a copy of the bytes P: they are pending; or laid, and not faulted; or faulted, and told by the sum -/
def Cp (D : Dv) (q : Int) (P : List Nat) : Prop :=
  D.pe q = some P ∨ (D.pe q = none ∧ D.fa q = false ∧ keptOf D q = P ∧ D.fi q = false) ∨ (D.pe q = none ∧ D.fa q = true ∧ ∀ l, D.read q = some l → Crc.sum l ≠ Crc.sum P)
theorem read_of {D E : Dv} {q : Int} (h1 : E.pe q = D.pe q) (h2 : E.fi q = D.fi q) (h3 : E.fl q = D.fl q) : E.read q = D.read q := by
  unfold Dv.read keptOf
  rw [h1, h2, h3]
theorem Cp.same {D E : Dv} {q : Int} {P : List Nat} (h : Cp D q P) (h1 : E.pe q = D.pe q) (h2 : E.fi q = D.fi q) (h3 : E.fl q = D.fl q) (h4 : E.fa q = D.fa q) : Cp E q P := by
  have hk : keptOf E q = keptOf D q := by unfold keptOf; rw [h3]
  unfold Cp at *
  rw [read_of h1 h2 h3, h1, h2, hk, h4]
  exact h
theorem Cp.put_same (D : Dv) (q : Int) (P : List Nat) : Cp (D.put q P) q P := .inl (upd_same _ _ _)
theorem Cp.put_other {D : Dv} {q j : Int} {P : List Nat} (h : Cp D q P) (hne : q ≠ j) (l : List Nat) : Cp (D.put j l) q P :=
  h.same (upd_other _ _ hne) rfl rfl rfl
theorem Cp.put_again {D : Dv} {q j : Int} {P : List Nat} (h : Cp D q P) : Cp (D.put j P) q P := by
  by_cases e : q = j
  · subst e; exact Cp.put_same D q P
  · exact h.put_other e P
theorem Cp.flush {D : Dv} {q : Int} {P : List Nat} (h : Cp D q P) : Cp D.flush q P := by
  rcases h with h | ⟨h1, h2, h3, h4⟩ | ⟨h1, h2, h3⟩
  · refine .inr (.inl ⟨rfl, ?_, ?_, ?_⟩)
    · show (if (D.pe q).isSome then false else _) = _; rw [h]; rfl
    · exact kept_of (E := D.flush) (i := q) (l := P) (by show (if (D.pe q).isSome then D.pe q else _) = _; rw [h]; rfl)
    · show (if (D.pe q).isSome then false else _) = _; rw [h]; rfl
  · refine .inr (.inl ⟨rfl, ?_, ?_, ?_⟩)
    · show (if (D.pe q).isSome then false else _) = _; rw [h1]; exact h2
    · unfold keptOf; show ((if (D.pe q).isSome then D.pe q else D.fl q).getD _) = _; rw [h1]; exact h3
    · show (if (D.pe q).isSome then false else _) = _; rw [h1]; exact h4
  · refine .inr (.inr ⟨rfl, ?_, ?_⟩)
    · show (if (D.pe q).isSome then false else _) = _; rw [h1]; exact h2
    · rw [read_of (D := D) h1.symm (by show (if (D.pe q).isSome then false else _) = _; rw [h1]; rfl) (by show (if (D.pe q).isSome then D.pe q else _) = _; rw [h1]; rfl)]
      exact h3
theorem may_of {D : Dv} {i : Int} (h : D.may i = true) : D.pe i = none ∧ D.fa i = false := by
  unfold Dv.may at h
  rw [Bool.and_eq_true, Bool.and_eq_true] at h
  refine ⟨?_, by simpa using h.2.2⟩
  cases hp : D.pe i with
  | none => rfl
  | some l => rw [hp] at h; simp at h
theorem Cp.spoil {D : Dv} {q i : Int} {P : List Nat} (h : Cp D q P) (hP : Blk P) (a t : Nat) (ht : t < 4294967296) : Cp (D.spoil i a t) q P := by
  cases hm : D.mayS i a t with
  | false => rw [spoil_no hm]; exact h
  | true =>
    rw [spoil_yes hm]
    by_cases e : q = i
    · subst e
      unfold Dv.mayS at hm
      rw [Bool.and_eq_true, decide_eq_true_eq] at hm
      obtain ⟨m1, m2, m3⟩ := may_of hm.1, hm.2.1, hm.2.2
      obtain ⟨p1, p2⟩ := m1
      rcases h with h | ⟨h1, h2, h3, h4⟩ | ⟨h1, h2, h3⟩
      · rw [p1] at h; cases h
      · refine .inr (.inr ⟨h1, upd_same _ _ _, fun l hl => ?_⟩)
        have hx : (({ D with fl := upd D.fl q (some (Crc.turned (keptOf D q) a t)) } : Dv).fault q).read q = some (Crc.turned P a t) := by
          unfold Dv.read Dv.fault
          show (match D.pe q with | some l => some l | none => if D.fi q then none else some ((upd D.fl q (some _) q).getD _)) = _
          rw [h1]
          simp only
          rw [h4, upd_same, h3]
          rfl
        cases hl.symm.trans hx
        exact Crc.turned_sum_ne hP.1 (by rw [hP.2]; omega) m3.2 ht
      · rw [p2] at h2; cases h2
    · exact h.same rfl rfl (upd_other _ _ e) (upd_other _ _ e)
theorem Cp.fail {D : Dv} {q i : Int} {P : List Nat} (h : Cp D q P) : Cp (D.fail i) q P := by
  cases hm : D.may i with
  | false =>
    have : D.fail i = D := by unfold Dv.fail; rw [hm]; rfl
    rw [this]; exact h
  | true =>
    have : D.fail i = { D with fi := upd D.fi i true }.fault i := by unfold Dv.fail; rw [hm]; rfl
    rw [this]
    by_cases e : q = i
    · subst e
      obtain ⟨p1, p2⟩ := may_of hm
      refine .inr (.inr ⟨p1, upd_same _ _ _, fun l hl => ?_⟩)
      have hx := read_failed (D := { D with fi := upd D.fi q true }.fault q) (j := q) p1 (upd_same D.fi q true)
      cases hl.symm.trans hx
    · exact h.same rfl (upd_other _ _ e) rfl (upd_other _ _ e)
/-- a copy is right just if its bytes are those -/
theorem Cp.right {D : Dv} {q : Nat} {P : List Nat} (h : Cp D q P) : right D q (Crc.sum P) = decide (D.read q = some P) := by
  unfold PairG.right
  rcases h with h | ⟨h1, h2, h3, h4⟩ | ⟨h1, h2, h3⟩
  · rw [read_pending h]; simp
  · rw [read_flushed h1 h4, h3]; simp
  · cases hr : D.read q with
    | none => rfl
    | some l =>
      have := h3 l hr
      show decide (Crc.sum l = Crc.sum P) = _
      rw [decide_eq_false this]
      symm
      rw [decide_eq_false_iff_not]
      intro e
      cases e
      exact this rfl

/-- what Mend does -/
def mendP (D : Dv) (h c i s : Nat) : Option Nat × Dv × Nat :=
  match right D i s, right D (i + h) s with
  | true, true => (some 0, D, c)
  | false, false => (none, D, c)
  | true, false => (some 1, D.put ((i + h : Nat) : Int) ((D.read i).getD []), c + 1)
  | false, true => (some 1, D.put i ((D.read ((i + h : Nat) : Int)).getD []), c + 1)
end Go.Proofs.YtbjfgdahfpfgdaaGreatDoor.PairG

namespace Go.Proofs.YtbjfgdahfpfgdaaGreatDoor.PgW
open Go Go.RowKit Go.Maps Go.Proofs.YtbjfgdahfpfgdaaGreatDoor.Mem Go.Proofs.YtbjfgdahfpfgdaaGreatDoor.MapsW Go.Proofs.YtbjfgdahfpfgdaaGreatDoor.SeeW Go.Proofs.YtbjfgdahfpfgdaaGreatDoor.DevG Go.Proofs.YtbjfgdahfpfgdaaGreatDoor.PairG Go.Proofs.YtbjfgdahfpfgdaaGreatDoor.RefsW Go.Proofs.YtbjfgdahfpfgdaaGreatDoor.PgP
set_option linter.unusedVariables false
set_option maxRecDepth 100000

end Go.Proofs.YtbjfgdahfpfgdaaGreatDoor.PgW

namespace Go.Proofs.YtbjfgdahfpfgdaaGreatDoor.PgW
open Go Go.RowKit Go.Maps Go.Proofs.YtbjfgdahfpfgdaaGreatDoor.Mem Go.Proofs.YtbjfgdahfpfgdaaGreatDoor.MapsW Go.Proofs.YtbjfgdahfpfgdaaGreatDoor.SeeW Go.Proofs.YtbjfgdahfpfgdaaGreatDoor.DevG Go.Proofs.YtbjfgdahfpfgdaaGreatDoor.PairG Go.Proofs.YtbjfgdahfpfgdaaGreatDoor.RefsW Go.Proofs.YtbjfgdahfpfgdaaGreatDoor.PgP Go.Proofs.YtbjfgdahfpfgdaaGreatDoor.Ints
set_option linter.unusedVariables false
set_option maxRecDepth 100000

/-- a place in use -/
def RefOf (S : St) (r : Ref) : Prop := r ∈ S.tabs ∨ ∃ i, S.at_ i = some r
/-- what Heal leaves -/
def HealTo (w : World) (lo n : Nat) (m : Mp) (D D' : Dv) (I : Si) (S : St) (c' i j : Nat) (e : Ending) (w' : World) : Prop :=
  (((∃ r, RefOf S r ∧ r.1 = (i : Int)) ∧ e = .returned (.tuple #[.int .i64 (j : Int), .nilIface]) ∧ SAt w' lo (n + 1) m D' { I with c := c' } S) ∨
    ((∀ r, RefOf S r → r.1 ≠ (i : Int)) ∧ e = .returned (.tuple #[.int .i64 0, .nilIface]) ∧ SAt w' lo (n + 1) m D I S)) ∧ Turn (I.p :: own I.d m) w w'
theorem HealTo.mend {w w1 w' : World} {lo n : Nat} {m : Mp} {D D' : Dv} {I : Si} {S : St} {c' i j : Nat} {r : Ref} (hr : RefOf S r) (hi : r.1 = (i : Int)) (hb : Below w.heap.size w w1) (k : SAt w' lo (n + 1) m D' { I with c := c' } S) (ht : Turn (I.p :: own I.d m) w1 w') : HealTo w lo n m D D' I S c' i j (.returned (.tuple #[.int .i64 (j : Int), .nilIface])) w' :=
  ⟨.inl ⟨⟨r, hr, hi⟩, rfl, k⟩, (Turn.of_below hb).then ht⟩
theorem HealTo.none {w w' : World} {lo n : Nat} {m : Mp} {D D' : Dv} {I : Si} {S : St} {c' i j : Nat} (h : ∀ r, RefOf S r → r.1 ≠ (i : Int)) (hb : Below w.heap.size w w') (k : SAt w lo n m D I S) : HealTo w lo n m D D' I S c' i j (.returned (.tuple #[.int .i64 0, .nilIface])) w' :=
  ⟨.inr ⟨h, rfl, (k.below hb).mono (by omega)⟩, Turn.of_below hb⟩
end Go.Proofs.YtbjfgdahfpfgdaaGreatDoor.PgW

namespace Go.Proofs.YtbjfgdahfpfgdaaGreatDoor.PgW
open Go Go.RowKit Go.Maps Go.Proofs.YtbjfgdahfpfgdaaGreatDoor.Mem Go.Proofs.YtbjfgdahfpfgdaaGreatDoor.MapsW Go.Proofs.YtbjfgdahfpfgdaaGreatDoor.SeeW Go.Proofs.YtbjfgdahfpfgdaaGreatDoor.DevG Go.Proofs.YtbjfgdahfpfgdaaGreatDoor.PairG Go.Proofs.YtbjfgdahfpfgdaaGreatDoor.PgP Go.Proofs.YtbjfgdahfpfgdaaGreatDoor.RootP Go.Proofs.YtbjfgdahfpfgdaaGreatDoor.RootW
set_option linter.unusedVariables false
set_option maxRecDepth 100000

theorem put_read_same (D : Dv) (q : Int) (P : List Nat) : (D.put q P).read q = some P := read_pending (upd_same _ _ _)
theorem put_read_other (D : Dv) {q j : Int} (h : q ≠ j) (P : List Nat) : (D.put j P).read q = D.read q := read_of (upd_other _ _ h) rfl rfl
/-- a copy that is right, laid, not faulted -/
def Sound (D : Dv) (q : Int) (P : List Nat) : Prop := D.pe q = none ∧ D.fa q = false ∧ keptOf D q = P ∧ D.fi q = false
theorem Sound.cp {D : Dv} {q : Int} {P : List Nat} (h : Sound D q P) : Cp D q P := .inr (.inl h)
theorem Sound.read {D : Dv} {q : Int} {P : List Nat} (h : Sound D q P) : D.read q = some P := by rw [read_flushed h.1 h.2.2.2, h.2.2.1]
/-- a pair of which one copy is right, the other one right or told -/
structure Lame (D : Dv) (H a : Nat) (P : List Nat) : Prop where
  blk : Blk P
  c1 : Cp D (a : Int) P
  c2 : Cp D ((a + H : Nat) : Int) P
  one : D.read (a : Int) = some P ∨ D.read ((a + H : Nat) : Int) = some P
theorem Lame.of {D : Dv} {H a : Nat} {P : List Nat} (hP : Blk P) (h1 : Sound D (a : Int) P) (h2 : Sound D ((a + H : Nat) : Int) P) : Lame D H a P := ⟨hP, h1.cp, h2.cp, .inl h1.read⟩
theorem cp_ne {D : Dv} {q : Nat} {P : List Nat} (h : Cp D (q : Int) P) (hne : D.read (q : Int) ≠ some P) : ∀ l, D.read (q : Int) = some l → Crc.sum l ≠ Crc.sum P := by
  have r := h.right
  rw [decide_eq_false hne] at r
  intro l hl
  unfold PairG.right at r
  rw [hl] at r
  exact of_decide_eq_false r
/-- what a read of it gives, what it mends -/
theorem Lame.readP {D : Dv} {H a : Nat} {P : List Nat} (h : Lame D H a P) (c : Nat) : (PairG.readP D H c a (Crc.sum P) = (some P, D, c) ∧ D.read (a : Int) = some P) ∨ (PairG.readP D H c a (Crc.sum P) = (some P, D.put (a : Int) P, c + 1) ∧ D.read (a : Int) ≠ some P) := by
  by_cases e : D.read (a : Int) = some P
  · exact .inl ⟨readP_first e rfl, e⟩
  · refine .inr ⟨?_, e⟩
    rw [readP_second (cp_ne h.c1 e)]
    unfold second
    rcases h.one with h1 | h1
    · exact absurd h1 e
    · rw [h1]
      simp
/-- a copy of some pair is mended -/
theorem Lame.put {D : Dv} {H a b : Nat} {P Q : List Nat} (h : Lame D H a P) (ha : a < H) (hb : b < H) (q : Nat) (hq : q = b ∨ q = b + H) (hQ : a = b → P = Q) : Lame (D.put (q : Int) Q) H a P := by
  by_cases e : a = b
  · obtain rfl := hQ e
    refine ⟨h.blk, h.c1.put_again, h.c2.put_again, ?_⟩
    by_cases e1 : (a : Int) = (q : Int)
    · left; rw [e1]; exact put_read_same _ _ _
    · by_cases e2 : ((a + H : Nat) : Int) = (q : Int)
      · right; rw [e2]; exact put_read_same _ _ _
      · omega
  · have n1 : (a : Int) ≠ (q : Int) := by omega
    have n2 : ((a + H : Nat) : Int) ≠ (q : Int) := by omega
    exact ⟨h.blk, h.c1.put_other n1 Q, h.c2.put_other n2 Q, by rw [put_read_other D n1, put_read_other D n2]; exact h.one⟩
theorem Lame.flush {D : Dv} {H a : Nat} {P : List Nat} (h : Lame D H a P) : Lame D.flush H a P := by
  have hr : ∀ q : Int, D.read q = some P → D.flush.read q = some P := fun q hq => by
    cases hp : D.pe q with
    | some l =>
      rw [read_pending hp] at hq
      cases hq
      rw [read_flushed (D := D.flush) (j := q) rfl (by show (if (D.pe q).isSome then false else _) = _; rw [hp]; rfl)]
      rw [kept_of (E := D.flush) (i := q) (l := P) (by show (if (D.pe q).isSome then D.pe q else _) = _; rw [hp]; rfl)]
    | none => rw [read_of (D := D) hp.symm (by show (if (D.pe q).isSome then false else _) = _; rw [hp]; rfl) (by show (if (D.pe q).isSome then D.pe q else _) = _; rw [hp]; rfl)]; exact hq
  exact ⟨h.blk, h.c1.flush, h.c2.flush, h.one.imp (hr _) (hr _)⟩
theorem Sound.fail {D : Dv} {q i : Int} {P : List Nat} (h : Sound D q P) (hne : q ≠ i) : Sound (D.fail i) q P := by
  cases hm : D.may i with
  | false => rw [show D.fail i = D by unfold Dv.fail; rw [hm]; rfl]; exact h
  | true =>
    rw [show D.fail i = { D with fi := upd D.fi i true }.fault i by unfold Dv.fail; rw [hm]; rfl]
    exact ⟨h.1, (upd_other _ _ hne).trans h.2.1, h.2.2.1, (upd_other _ _ hne).trans h.2.2.2⟩
theorem Sound.spoil {D : Dv} {q i : Int} {P : List Nat} (h : Sound D q P) (hne : q ≠ i) (at_ : Int) (t : Nat) : Sound (D.spoil i at_ t) q P := by
  cases hm : D.mayS i at_ t with
  | false => rw [spoil_no hm]; exact h
  | true => rw [spoil_yes hm]; exact ⟨h.1, (upd_other _ _ hne).trans h.2.1, (by unfold keptOf; show ((upd D.fl i _ q).getD _) = _; rw [upd_other _ _ hne]; exact h.2.2.1), h.2.2.2⟩
/-- what mending it leaves -/
theorem Lame.mendP {D : Dv} {H a : Nat} {P : List Nat} (h : Lame D H a P) (c : Nat) : ∃ k D' c', PairG.mendP D H c a (Crc.sum P) = (some k, D', c') ∧ c' ≤ c + 1 ∧ (D' = D ∨ D' = D.put (a : Int) P ∨ D' = D.put ((a + H : Nat) : Int) P) ∧ D'.read (a : Int) = some P ∧ D'.read ((a + H : Nat) : Int) = some P := by
  have r1 := h.c1.right
  have r2 := h.c2.right
  unfold PairG.mendP
  by_cases e1 : D.read (a : Int) = some P
  · by_cases e2 : D.read ((a + H : Nat) : Int) = some P
    · rw [decide_eq_true e1] at r1
      rw [decide_eq_true e2] at r2
      rw [r1, r2]
      exact ⟨0, D, c, rfl, by omega, .inl rfl, e1, e2⟩
    · rw [decide_eq_true e1] at r1
      rw [decide_eq_false e2] at r2
      rw [r1, r2]
      have hne : (a : Int) ≠ ((a + H : Nat) : Int) := fun e => e2 (by rw [← e]; exact e1)
      exact ⟨1, _, c + 1, by rw [e1]; rfl, by omega, .inr (.inr rfl), by rw [put_read_other D hne]; exact e1, put_read_same _ _ _⟩
  · rcases h.one with h1 | e2
    · exact absurd h1 e1
    · rw [decide_eq_false e1] at r1
      rw [decide_eq_true e2] at r2
      rw [r1, r2]
      have hne : ((a + H : Nat) : Int) ≠ (a : Int) := fun e => e1 (by rw [← e]; exact e2)
      exact ⟨1, _, c + 1, by rw [e2]; rfl, by omega, .inr (.inl rfl), put_read_same _ _ _, by rw [put_read_other D hne]; exact e2⟩
theorem Sound.of {D : Dv} (h : D.Idle) (hf : ∀ i, D.fa i = false) {q : Int} {P : List Nat} (hr : D.read q = some P) : Sound D q P := by
  rw [h.read] at hr
  cases hi : D.fi q with
  | true => rw [hi] at hr; cases hr
  | false => rw [hi] at hr; exact ⟨h.pe q, hf q, Option.some.inj hr, hi⟩
/-- a root's block: pending, or not faulted, or no root and not nothing -/
def Rs (D : Dv) (q : Int) : Prop := (D.pe q).isSome = true ∨ (D.pe q = none ∧ D.fa q = false) ∨ (D.pe q = none ∧ D.fa q = true ∧ ∀ l, D.read q = some l → parse l = none ∧ ∃ c ∈ l, c ≠ 0)
theorem Rs.put_same (D : Dv) (q : Int) (l : List Nat) : Rs (D.put q l) q := .inl (by show (upd D.pe q (some l) q).isSome = true; rw [upd_same]; rfl)
theorem Rs.same {D E : Dv} {q : Int} (h : Rs D q) (h1 : E.pe q = D.pe q) (h2 : E.fi q = D.fi q) (h3 : E.fl q = D.fl q) (h4 : E.fa q = D.fa q) : Rs E q := by
  unfold Rs at *
  rw [read_of h1 h2 h3, h1, h4]
  exact h
theorem Rs.put {D : Dv} {q : Int} (h : Rs D q) (j : Int) (l : List Nat) : Rs (D.put j l) q := by
  by_cases e : q = j
  · subst e; exact Rs.put_same D q l
  · exact h.same (upd_other _ _ e) rfl rfl rfl
theorem Rs.flush {D : Dv} {q : Int} (h : Rs D q) : Rs D.flush q := by
  have hpe : D.flush.pe q = none := rfl
  have hfa : D.flush.fa q = if (D.pe q).isSome then false else D.fa q := rfl
  rcases h with h | ⟨h1, h2⟩ | ⟨h1, h2, h3⟩
  · exact .inr (.inl ⟨hpe, by rw [hfa, if_pos h]⟩)
  · exact .inr (.inl ⟨hpe, by rw [hfa, h1]; exact h2⟩)
  · refine .inr (.inr ⟨hpe, by rw [hfa, h1]; exact h2, ?_⟩)
    rw [read_of (D := D) h1.symm (by show (if (D.pe q).isSome then false else _) = _; rw [h1]; rfl) (by show (if (D.pe q).isSome then D.pe q else _) = _; rw [h1]; rfl)]
    exact h3
end Go.Proofs.YtbjfgdahfpfgdaaGreatDoor.PgW

namespace Go.Proofs.YtbjfgdahfpfgdaaGreatDoor.PgW
open Go Go.RowKit Go.Maps Go.Proofs.YtbjfgdahfpfgdaaGreatDoor.Mem Go.Proofs.YtbjfgdahfpfgdaaGreatDoor.MapsW Go.Proofs.YtbjfgdahfpfgdaaGreatDoor.SeeW Go.Proofs.YtbjfgdahfpfgdaaGreatDoor.DevG Go.Proofs.YtbjfgdahfpfgdaaGreatDoor.PairG Go.Proofs.YtbjfgdahfpfgdaaGreatDoor.PgP Go.Proofs.YtbjfgdahfpfgdaaGreatDoor.RootP Go.Proofs.YtbjfgdahfpfgdaaGreatDoor.RootW
set_option linter.unusedVariables false
set_option maxRecDepth 100000

/-- what stands though copies are wrong: C is what each pair is to have -/
structure Limp (H : Nat) (S : St) (V : Int → Option (List Nat)) (C : Nat → List Nat) (D : Dv) : Prop where
  fit : Fit H S V (fun a l => C a = l)
  now : S.now = fun _ => none
  lame : ∀ a, 2 ≤ a → a < H → a ∈ used S.tabs S.at_ H → Lame D H a (C a)
  down : D.down = false
  fuse : D.fuse = 0
  bytes : ∀ i l, D.read i = some l → Crc.Bytes l
  le : ∀ s ∈ spots H, ∀ q, oneOf D (s : Int) = some q → q.ep ≤ (S.ep : Int)
  eq : ∀ s ∈ spots H, ∀ q, oneOf D (s : Int) = some q → q.ep = (S.ep : Int) → q = ⟨(S.ep : Int), S.rs⟩
  one : 0 < S.ep → oneOf D ((S.ep % 2 : Nat) : Int) = some ⟨(S.ep : Int), S.rs⟩ ∨ oneOf D ((S.ep % 2 + H : Nat) : Int) = some ⟨(S.ep : Int), S.rs⟩
  rt : ∀ s ∈ spots H, Rs D (s : Int)
theorem Limp.best {H : Nat} {S : St} {V : Int → Option (List Nat)} {C : Nat → List Nat} {D : Dv} (h : Limp H S V C D) (h0 : 0 < S.ep) : bestOf D H = ⟨(S.ep : Int), S.rs⟩ := by
  refine best_of (by show (0 : Int) < (S.ep : Int); omega) ?_ fun s hs q hq => ?_
  · rcases h.one h0 with e | e
    · exact ⟨_, (spot_of H S.ep).1, e⟩
    · exact ⟨_, (spot_of H S.ep).2, e⟩
  · by_cases e : q.ep = (S.ep : Int)
    · exact .inl (h.eq s hs q hq e)
    · have := h.le s hs q hq
      right
      show q.ep < (S.ep : Int)
      omega
/-- a copy is mended -/
theorem Limp.put {H : Nat} {S : St} {V : Int → Option (List Nat)} {C : Nat → List Nat} {D : Dv} (h : Limp H S V C D) {b : Nat} (b2 : 2 ≤ b) (bH : b < H) (hb : b ∈ used S.tabs S.at_ H) (q : Nat) (hq : q = b ∨ q = b + H) : Limp H S V C (D.put (q : Int) (C b)) := by
  have hso : ∀ s ∈ spots H, oneOf (D.put (q : Int) (C b)) (s : Int) = oneOf D (s : Int) := fun s hs => by
    have hne : (s : Int) ≠ (q : Int) := by rcases spots_mem hs with rfl | rfl | rfl | rfl <;> omega
    unfold oneOf
    rw [put_read_other D hne]
  refine ⟨h.fit, h.now, fun a a2 aH ha => (h.lame a a2 aH ha).put aH bH q hq (fun e => by rw [e]), h.down, h.fuse, fun i l hl => ?_, fun s hs r hr => ?_, fun s hs r hr he => ?_, fun h0 => ?_, fun s hs => (h.rt s hs).put _ _⟩
  · by_cases e : i = (q : Int)
    · rw [e, put_read_same] at hl
      cases hl
      exact (h.lame b b2 bH hb).blk.1
    · rw [put_read_other D e] at hl
      exact h.bytes i l hl
  · rw [hso s hs] at hr; exact h.le s hs r hr
  · rw [hso s hs] at hr; exact h.eq s hs r hr he
  · rw [hso _ (spot_of H S.ep).1, hso _ (spot_of H S.ep).2]; exact h.one h0
/-- the tables read one behind the other -/
def tabStep (S : St) (H t : Nat) (x : Dv × Nat) : Dv × Nat :=
  if PgP.has S.at_ t then ((PairG.readP x.1 H x.2 (S.tabs.getD t (0, 0)).1.toNat (S.tabs.getD t (0, 0)).2).2.1, (PairG.readP x.1 H x.2 (S.tabs.getD t (0, 0)).1.toNat (S.tabs.getD t (0, 0)).2).2.2) else x
def tabRun (S : St) (H : Nat) (D : Dv) : Nat → Dv × Nat
  | 0 => (D, 0)
  | t + 1 => tabStep S H t (tabRun S H D t)
structure Ran (H : Nat) (S : St) (V : Int → Option (List Nat)) (C : Nat → List Nat) (D : Dv) (t : Nat) (x : Dv × Nat) : Prop where
  limp : Limp H S V C x.1
  blocks : x.1.blocks = D.blocks
  np : x.1.np ≤ D.np + t
  calls : x.1.calls ≤ D.calls + t
  c : x.2 ≤ t
theorem Limp.tab {H : Nat} {S : St} {V : Int → Option (List Nat)} {C : Nat → List Nat} {D : Dv} (h : Limp H S V C D) {t : Nat} (ht : t < 7) (hh : PgP.has S.at_ t = true) : ∃ a : Nat, S.tabs.getD t (0, 0) = ((a : Int), Crc.sum (tblk S.at_ t)) ∧ 2 ≤ a ∧ a < H ∧ a ∈ used S.tabs S.at_ H ∧ C a = tblk S.at_ t := by
  obtain ⟨a, e, a1, a2, a3⟩ := h.fit.tb t ht hh
  refine ⟨a, e, a1, a2, mem_used.2 ⟨a2, .inr (.inl ⟨S.tabs.getD t (0, 0), ?_, by rw [e]⟩)⟩, a3⟩
  rw [List.getD_eq_getElem?_getD, List.getElem?_eq_getElem (by rw [h.fit.t7]; exact ht)]
  exact List.getElem_mem _
theorem Ran.step {H : Nat} {S : St} {V : Int → Option (List Nat)} {C : Nat → List Nat} {D : Dv} {t : Nat} {x : Dv × Nat} (h : Ran H S V C D t x) (ht : t < 7) : Ran H S V C D (t + 1) (tabStep S H t x) := by
  unfold tabStep
  cases hh : PgP.has S.at_ t with
  | false => exact ⟨h.limp, h.blocks, by have := h.np; simp only [Bool.false_eq_true, if_false]; omega, by have := h.calls; simp only [Bool.false_eq_true, if_false]; omega, by have := h.c; simp only [Bool.false_eq_true, if_false]; omega⟩
  | true =>
    rw [if_pos rfl]
    obtain ⟨a, e, a2, aH, au, hC⟩ := h.limp.tab ht hh
    have hl := h.limp.lame a a2 aH au
    rw [hC] at hl
    have hnp := h.np
    have hcl := h.calls
    have hc := h.c
    have e1 : (S.tabs.getD t (0, 0)).1.toNat = a := by rw [e]; exact Int.toNat_natCast a
    have e2 : (S.tabs.getD t (0, 0)).2 = Crc.sum (tblk S.at_ t) := by rw [e]
    rw [e1, e2]
    rcases hl.readP x.2 with ⟨g, _⟩ | ⟨g, _⟩
    · rw [g]
      exact ⟨h.limp, h.blocks, by show x.1.np ≤ _; omega, by show x.1.calls ≤ _; omega, by show x.2 ≤ _; omega⟩
    · rw [g]
      have hp := h.limp.put a2 aH au a (.inl rfl)
      rw [hC] at hp
      have hn := put_np x.1 (a : Int) (tblk S.at_ t)
      exact ⟨hp, h.blocks, by show (x.1.put _ _).np ≤ _; omega, by show x.1.calls + 1 ≤ _; omega, by show x.2 + 1 ≤ _; omega⟩
theorem Limp.ran {H : Nat} {S : St} {V : Int → Option (List Nat)} {C : Nat → List Nat} {D : Dv} (h : Limp H S V C D) : ∀ t, t ≤ 7 → Ran H S V C D t (tabRun S H D t)
  | 0, _ => ⟨h, rfl, Nat.le_refl _, Nat.le_refl _, Nat.le_refl _⟩
  | t + 1, ht => (Limp.ran h t (by omega)).step (by omega)
theorem Limp.tabs {H : Nat} {S : St} {V : Int → Option (List Nat)} {C : Nat → List Nat} {D : Dv} (h : Limp H S V C D) (h0 : 0 < S.ep) : Tabs D H S.tabs S.at_ (fun t => (tabRun S H D t).1) (fun t => (tabRun S H D t).2) := by
  refine ⟨rfl, rfl, fun t ht hh => ?_, fun t ht hh => ?_, fun t ht => (h.ran t ht).limp.down, fun t ht => (h.ran t ht).limp.fuse.trans h.fuse.symm, fun t ht => (h.ran t ht).blocks, fun t ht => (h.ran t ht).np, fun t ht => (h.ran t ht).calls, fun t ht => (h.ran t ht).limp.bytes, fun t ht => (h.ran t ht).c, ?_⟩
  · refine ⟨h.fit.tno t ht hh, ?_, ?_⟩ <;> (show _ = _; simp only [tabRun, tabStep, hh, Bool.false_eq_true, if_false])
  · have hr := (h.ran t (by omega)).limp
    obtain ⟨a, e, a2, aH, au, hC⟩ := hr.tab ht hh
    have hl := hr.lame a a2 aH au
    rw [hC] at hl
    refine ⟨a, e, a2, aH, ?_, .inl h.fuse⟩
    have e1 : (S.tabs.getD t (0, 0)).1.toNat = a := by rw [e]; exact Int.toNat_natCast a
    have e2 : (S.tabs.getD t (0, 0)).2 = Crc.sum (tblk S.at_ t) := by rw [e]
    show _ = (some (tblk S.at_ t), (tabStep S H t (tabRun S H D t)).1, (tabStep S H t (tabRun S H D t)).2)
    unfold tabStep
    rw [if_pos hh, e1, e2]
    rcases hl.readP (tabRun S H D t).2 with ⟨g, _⟩ | ⟨g, _⟩ <;> rw [g]
  · rw [(h.ran 7 (Nat.le_refl _)).limp.best h0, h.best h0]
end Go.Proofs.YtbjfgdahfpfgdaaGreatDoor.PgW

namespace Go.Proofs.YtbjfgdahfpfgdaaGreatDoor.PgW
open Go Go.RowKit Go.Maps Go.Proofs.YtbjfgdahfpfgdaaGreatDoor.Mem Go.Proofs.YtbjfgdahfpfgdaaGreatDoor.MapsW Go.Proofs.YtbjfgdahfpfgdaaGreatDoor.SeeW Go.Proofs.YtbjfgdahfpfgdaaGreatDoor.DevG Go.Proofs.YtbjfgdahfpfgdaaGreatDoor.PairG Go.Proofs.YtbjfgdahfpfgdaaGreatDoor.PgP Go.Proofs.YtbjfgdahfpfgdaaGreatDoor.RootP Go.Proofs.YtbjfgdahfpfgdaaGreatDoor.RootW
set_option linter.unusedVariables false
set_option maxRecDepth 100000

theorem flush_read (D : Dv) (q : Int) : D.flush.read q = D.read q := by
  cases hp : D.pe q with
  | some l =>
    rw [read_pending hp, read_flushed (D := D.flush) (j := q) rfl (by show (if (D.pe q).isSome then false else _) = _; rw [hp]; rfl), kept_of (E := D.flush) (i := q) (l := l) (by show (if (D.pe q).isSome then D.pe q else _) = _; rw [hp]; rfl)]
  | none => exact read_of hp.symm (by show (if (D.pe q).isSome then false else _) = _; rw [hp]; rfl) (by show (if (D.pe q).isSome then D.pe q else _) = _; rw [hp]; rfl)
theorem Lame.put_far {D : Dv} {H a : Nat} {P : List Nat} (h : Lame D H a P) {q : Int} (h1 : (a : Int) ≠ q) (h2 : ((a + H : Nat) : Int) ≠ q) (Q : List Nat) : Lame (D.put q Q) H a P :=
  ⟨h.blk, h.c1.put_other h1 Q, h.c2.put_other h2 Q, by rw [put_read_other D h1, put_read_other D h2]; exact h.one⟩
theorem Limp.flush {H : Nat} {S : St} {V : Int → Option (List Nat)} {C : Nat → List Nat} {D : Dv} (h : Limp H S V C D) : Limp H S V C D.flush := by
  have ho : ∀ i : Int, oneOf D.flush i = oneOf D i := fun i => by unfold oneOf; rw [flush_read]
  exact ⟨h.fit, h.now, fun a a2 aH ha => (h.lame a a2 aH ha).flush, h.down, h.fuse, fun i l hl => h.bytes i l (by rw [← flush_read]; exact hl), fun s hs q hq => h.le s hs q (by rw [← ho]; exact hq), fun s hs q hq => h.eq s hs q (by rw [← ho]; exact hq), fun h0 => by rw [ho, ho]; exact h.one h0, fun s hs => (h.rt s hs).flush⟩
/-- the newest root written into one of the roots' blocks -/
theorem Limp.putRoot {H : Nat} {S : St} {V : Int → Option (List Nat)} {C : Nat → List Nat} {D : Dv} (h : Limp H S V C D) (h2 : 2 ≤ H) (hf : Fine ⟨(S.ep : Int), S.rs⟩) (h0 : 0 < S.ep) {s : Nat} (hs : s ∈ spots H) : Limp H S V C (D.put (s : Int) (enc ⟨(S.ep : Int), S.rs⟩)) ∧ oneOf (D.put (s : Int) (enc ⟨(S.ep : Int), S.rs⟩)) (s : Int) = some ⟨(S.ep : Int), S.rs⟩ ∧ ∀ i : Int, oneOf D i = some ⟨(S.ep : Int), S.rs⟩ → oneOf (D.put (s : Int) (enc ⟨(S.ep : Int), S.rs⟩)) i = some ⟨(S.ep : Int), S.rs⟩ := by
  have hsame : oneOf (D.put (s : Int) (enc ⟨(S.ep : Int), S.rs⟩)) (s : Int) = some ⟨(S.ep : Int), S.rs⟩ := by unfold oneOf; rw [put_read_same]; exact hf.parse
  have ho : ∀ i : Int, i ≠ (s : Int) → oneOf (D.put (s : Int) (enc ⟨(S.ep : Int), S.rs⟩)) i = oneOf D i := fun i hi => by unfold oneOf; rw [put_read_other D hi]
  have hk : ∀ i : Int, oneOf D i = some ⟨(S.ep : Int), S.rs⟩ → oneOf (D.put (s : Int) (enc ⟨(S.ep : Int), S.rs⟩)) i = some ⟨(S.ep : Int), S.rs⟩ := fun i hi => by
    by_cases e : i = (s : Int)
    · rw [e]; exact hsame
    · rw [ho i e]; exact hi
  refine ⟨⟨h.fit, h.now, fun a a2 aH ha => (h.lame a a2 aH ha).put_far ?_ ?_ _, h.down, h.fuse, fun i l hl => ?_, fun t ht q hq => ?_, fun t ht q hq he => ?_, fun h0 => (h.one h0).imp (hk _) (hk _), fun t ht => (h.rt t ht).put _ _⟩, hsame, hk⟩
  · rcases spots_mem hs with rfl | rfl | rfl | rfl <;> omega
  · rcases spots_mem hs with rfl | rfl | rfl | rfl <;> omega
  · by_cases e : i = (s : Int)
    · rw [e, put_read_same] at hl; cases hl; exact hf.bytes
    · rw [put_read_other D e] at hl; exact h.bytes i l hl
  · by_cases e : (t : Int) = (s : Int)
    · rw [e, hsame] at hq; cases hq; exact Int.le_refl _
    · rw [ho _ e] at hq; exact h.le t ht q hq
  · by_cases e : (t : Int) = (s : Int)
    · rw [e, hsame] at hq; cases hq; rfl
    · rw [ho _ e] at hq; exact h.eq t ht q hq he
/-- the root made whole -/
theorem Limp.whole {H : Nat} {S : St} {V : Int → Option (List Nat)} {C : Nat → List Nat} {D : Dv} (h : Limp H S V C D) (h0 : 0 < S.ep) (hH : H = GeoW.half D.blocks) (h2 : 2 ≤ H) (hf : Fine ⟨(S.ep : Int), S.rs⟩) :
    ∃ F, wholeT D S = (none, F) ∧ Limp H S V C F ∧ F.blocks = D.blocks ∧ F.calls ≤ D.calls + 3 ∧ F.np ≤ D.np := by
  unfold wholeT
  rw [← hH]
  by_cases h3 : copies D H S.ep = 2
  · rw [if_pos h3]
    exact ⟨D, rfl, h, rfl, by omega, Nat.le_refl _⟩
  · rw [if_neg h3, save_on, wall_idle H _ D h.down h.fuse]
    have p1 := (h.putRoot h2 hf h0 (spot_of H S.ep).1).1
    have p2 := (p1.putRoot h2 hf h0 (spot_of H S.ep).2).1
    have e : flushOn (none, puts D H [(S.ep % 2, enc ⟨(S.ep : Int), S.rs⟩)]) = (none, (puts D H [(S.ep % 2, enc ⟨(S.ep : Int), S.rs⟩)]).flush) := by
      show (puts D H [(S.ep % 2, enc ⟨(S.ep : Int), S.rs⟩)]).flushT = _
      obtain ⟨q1, q2, _⟩ := puts_same H [(S.ep % 2, enc ⟨(S.ep : Int), S.rs⟩)] D
      unfold DevG.Dv.flushT
      rw [Dv.tick_zero (by rw [q2]; exact h.fuse), q1, h.down, if_neg (by decide)]
    rw [e]
    exact ⟨_, rfl, p2.flush, rfl, by show D.calls + 1 + 1 + 1 ≤ _; omega, Nat.zero_le _⟩
theorem Stand.blk {H : Nat} {S : St} {V : Int → Option (List Nat)} {D : Dv} (h : Stand H S V D) {a : Nat} (a2 : 2 ≤ a) (aH : a < H) (ha : a ∈ used S.tabs S.at_ H) : ∃ l, Both D H a l ∧ Blk l := by
  obtain ⟨_, h1 | ⟨r, hr, e⟩ | ⟨p, hp, r, hr, e⟩⟩ := mem_used.1 ha
  · omega
  · obtain ⟨t, ht, e2⟩ := List.mem_iff_getElem.1 hr
    have ht7 : t < 7 := by rw [← h.fit.t7]; exact ht
    have hg : S.tabs.getD t (0, 0) = r := by rw [List.getD_eq_getElem?_getD, List.getElem?_eq_getElem ht, ← e2]; rfl
    cases hh : PgP.has S.at_ t with
    | false =>
      have := h.fit.tno t ht7 hh
      rw [hg] at this
      rw [this] at e
      simp at e
      omega
    | true =>
      obtain ⟨b, e3, b2, bH, hb⟩ := h.fit.tb t ht7 hh
      rw [hg] at e3
      rw [e3] at e
      have e' : (b : Int) = (a : Int) := e
      obtain rfl : b = a := by omega
      exact ⟨_, hb, tblk_bytes _ _, tblk_length _ _⟩
  · cases hv : V (p : Int) with
    | none => rw [h.fit.off _ hv] at hr; cases hr
    | some l =>
      obtain ⟨b, e3, b2, bH, hb⟩ := h.fit.pg _ l hv
      rw [e3] at hr
      cases hr
      have e' : (b : Int) = (a : Int) := e
      obtain rfl : b = a := by omega
      have hl := h.fit.len _ l hv
      exact ⟨_, hb, pblk_bytes (by omega) hl.2.2, pblk_length (by omega)⟩
/-- a store that stands, as one that limps -/
theorem Stand.limp {H : Nat} {S : St} {V : Int → Option (List Nat)} {D : Dv} (h : Stand H S V D) : ∃ C, Limp H { S with now := fun _ => none } V C D ∧ ∀ a, 2 ≤ a → a < H → a ∈ used S.tabs S.at_ H → Blk (C a) ∧ Sound D (a : Int) (C a) ∧ Sound D ((a + H : Nat) : Int) (C a) := by
  have hs : ∀ a, 2 ≤ a → a < H → a ∈ used S.tabs S.at_ H → Blk ((D.read (a : Int)).getD []) ∧ Sound D (a : Int) ((D.read (a : Int)).getD []) ∧ Sound D ((a + H : Nat) : Int) ((D.read (a : Int)).getD []) := fun a a2 aH ha => by
    obtain ⟨l, hl, hb⟩ := h.blk a2 aH ha
    rw [hl.1]
    exact ⟨hb, Sound.of h.idle h.fa hl.1, Sound.of h.idle h.fa hl.2⟩
  refine ⟨fun a => (D.read (a : Int)).getD [], ⟨fit_move (fit_none h.fit) fun a l a1 a2 _ hR => ?_, rfl, fun a a2 aH ha => ?_, h.idle.down, h.idle.fuse, h.idle.bytes, h.root.le, h.root.eq, fun h0 => .inl (h.root.two h0).1, fun s _ => .inr (.inl ⟨h.idle.pe _, h.fa _⟩)⟩, hs⟩
  · show (D.read (a : Int)).getD [] = l
    rw [hR.1]; rfl
  · obtain ⟨hb, s1, s2⟩ := hs a a2 aH ha
    exact Lame.of hb s1 s2
/-- a block of zeros that was turned is no root -/
theorem parse_turned_zeros (p t : Nat) : parse (Crc.turned (List.replicate 256 0) (p : Int) t) = none := by
  have hz : List.replicate 256 0 = enc ⟨0, []⟩ := by decide
  cases hp : parse (Crc.turned (List.replicate 256 0) (p : Int) t) with
  | none => rfl
  | some q =>
    exfalso
    obtain ⟨h1, h2⟩ := parse_some hp
    have h3 : half q = half ⟨0, []⟩ := by
      refine halves_eq p fun i hi => ?_
      rw [h2, hz]
      rw [show Crc.turned (enc ⟨0, []⟩) (p : Int) t = Crc.turnK (enc ⟨0, []⟩) (p : Int) t 4 from rfl, Crc.turnK_get]
      cases (enc ⟨0, []⟩)[i]? with
      | none => rfl
      | some c => simp only [Option.map_some]; rw [if_neg hi]
    have h4 : Crc.turned (List.replicate 256 0) (p : Int) t = List.replicate 256 0 := by
      rw [← h2, hz]
      unfold enc
      rw [h3]
    rw [h4, parse_zeros] at hp
    cases hp
end Go.Proofs.YtbjfgdahfpfgdaaGreatDoor.PgW

namespace Go.Proofs.YtbjfgdahfpfgdaaGreatDoor.PgW
open Go Go.RowKit Go.Maps Go.Proofs.YtbjfgdahfpfgdaaGreatDoor.Mem Go.Proofs.YtbjfgdahfpfgdaaGreatDoor.MapsW Go.Proofs.YtbjfgdahfpfgdaaGreatDoor.SeeW Go.Proofs.YtbjfgdahfpfgdaaGreatDoor.DevG Go.Proofs.YtbjfgdahfpfgdaaGreatDoor.PairG Go.Proofs.YtbjfgdahfpfgdaaGreatDoor.RefsW Go.Proofs.YtbjfgdahfpfgdaaGreatDoor.PgP Go.Proofs.YtbjfgdahfpfgdaaGreatDoor.RootP Go.Proofs.YtbjfgdahfpfgdaaGreatDoor.RootW
set_option linter.unusedVariables false
set_option maxRecDepth 100000

end Go.Proofs.YtbjfgdahfpfgdaaGreatDoor.PgW

namespace Go.Proofs.YtbjfgdahfpfgdaaGreatDoor.PgW
open Go Go.RowKit Go.Maps Go.Proofs.YtbjfgdahfpfgdaaGreatDoor.Mem Go.Proofs.YtbjfgdahfpfgdaaGreatDoor.MapsW Go.Proofs.YtbjfgdahfpfgdaaGreatDoor.SeeW Go.Proofs.YtbjfgdahfpfgdaaGreatDoor.DevG Go.Proofs.YtbjfgdahfpfgdaaGreatDoor.PairG Go.Proofs.YtbjfgdahfpfgdaaGreatDoor.PgP Go.Proofs.YtbjfgdahfpfgdaaGreatDoor.RootP Go.Proofs.YtbjfgdahfpfgdaaGreatDoor.RootW
set_option linter.unusedVariables false
set_option maxRecDepth 100000

/-- a block that a flush leaves without a fault -/
def Clean (D : Dv) (q : Int) : Prop := (D.pe q).isSome = true ∨ D.fa q = false
theorem Clean.put_same (D : Dv) (q : Int) (l : List Nat) : Clean (D.put q l) q := .inl (by show (upd D.pe q (some l) q).isSome = true; rw [upd_same]; rfl)
theorem Clean.put {D : Dv} {q : Int} (h : Clean D q) (j : Int) (l : List Nat) : Clean (D.put j l) q := by
  by_cases e : q = j
  · subst e; exact Clean.put_same D q l
  · refine h.imp (fun h => ?_) id
    show (upd D.pe j (some l) q).isSome = true
    rw [upd_other _ _ e]; exact h
theorem Clean.flush {D : Dv} {q : Int} (h : Clean D q) : D.flush.fa q = false := by
  show (if (D.pe q).isSome then false else D.fa q) = false
  rcases h with h | h
  · rw [if_pos h]
  · rw [h]; split <;> rfl
theorem cp_clean {D : Dv} {q : Int} {P : List Nat} (h : Cp D q P) (hr : D.read q = some P) : Clean D q := by
  rcases h with h | ⟨h1, h2, h3, h4⟩ | ⟨h1, h2, h3⟩
  · exact .inl (by rw [h]; rfl)
  · exact .inr h2
  · exact absurd rfl (h3 P hr)
/-- a pair of which no copy is faulted any more -/
structure Healed (H : Nat) (S : St) (D : Dv) (a : Nat) : Prop where
  c1 : Clean D (a : Int)
  c2 : Clean D ((a + H : Nat) : Int)
  rt : a = S.ep % 2 → oneOf D (a : Int) = some ⟨(S.ep : Int), S.rs⟩ ∧ oneOf D ((a + H : Nat) : Int) = some ⟨(S.ep : Int), S.rs⟩
theorem Healed.put {H : Nat} {S : St} {D : Dv} {a : Nat} (h : Healed H S D a) (q : Int) (l : List Nat) (hk : a = S.ep % 2 → (q ≠ (a : Int) ∧ q ≠ ((a + H : Nat) : Int)) ∨ parse l = some ⟨(S.ep : Int), S.rs⟩) : Healed H S (D.put q l) a := by
  refine ⟨h.c1.put _ _, h.c2.put _ _, fun e => ?_⟩
  have ho : ∀ i : Int, (q ≠ i) ∨ parse l = some ⟨(S.ep : Int), S.rs⟩ → oneOf D i = some ⟨(S.ep : Int), S.rs⟩ → oneOf (D.put q l) i = some ⟨(S.ep : Int), S.rs⟩ := fun i hq hi => by
    unfold oneOf at *
    by_cases e2 : i = q
    · subst e2
      rcases hq with hq | hq
      · exact absurd rfl hq
      · rw [put_read_same]; exact hq
    · rw [put_read_other D e2]; exact hi
  obtain ⟨r1, r2⟩ := h.rt e
  exact ⟨ho _ ((hk e).imp (·.1) id) r1, ho _ ((hk e).imp (·.2) id) r2⟩
/-- a pair is mended -/
structure Mends (H : Nat) (S : St) (V : Int → Option (List Nat)) (C : Nat → List Nat) (D D' : Dv) (b : Nat) : Prop where
  limp : Limp H S V C D'
  healed : Healed H S D' b
  kept : ∀ a, Healed H S D a → Healed H S D' a
  blocks : D'.blocks = D.blocks
  calls : D'.calls ≤ D.calls + 2
  np : D'.np ≤ D.np + 2
theorem Limp.mend {H : Nat} {S : St} {V : Int → Option (List Nat)} {C : Nat → List Nat} {D : Dv} (h : Limp H S V C D) {b : Nat} (b2 : 2 ≤ b) (bH : b < H) (hb : b ∈ used S.tabs S.at_ H) (c : Nat) :
    ∃ k D' c', mendP D H c b (Crc.sum (C b)) = (some k, D', c') ∧ k ≤ 1 ∧ c' ≤ c + 1 ∧ Mends H S V C D D' b := by
  have hl := h.lame b b2 bH hb
  obtain ⟨k, D', c', e, hc, hD, r1, r2⟩ := hl.mendP c
  have hk1 : k ≤ 1 := by
    unfold mendP at e
    split at e <;> cases e <;> omega
  have hm : Limp H S V C D' ∧ (∀ a, Healed H S D a → Healed H S D' a) ∧ D'.blocks = D.blocks ∧ D'.calls ≤ D.calls + 2 ∧ D'.np ≤ D.np + 2 := by
    have hput : ∀ q : Nat, (q = b ∨ q = b + H) → Limp H S V C (D.put (q : Int) (C b)) ∧ (∀ a, Healed H S D a → Healed H S (D.put (q : Int) (C b)) a) ∧ (D.put (q : Int) (C b)).blocks = D.blocks ∧ (D.put (q : Int) (C b)).calls ≤ D.calls + 2 ∧ (D.put (q : Int) (C b)).np ≤ D.np + 2 := fun q hq => by
      refine ⟨h.put b2 bH hb q hq, fun a ha => ha.put _ _ fun e => .inl (by omega), rfl, by show D.calls + 1 ≤ _; omega, ?_⟩
      have := put_np D (q : Int) (C b)
      omega
    rcases hD with rfl | rfl | rfl
    · exact ⟨h, fun _ ha => ha, rfl, by omega, by omega⟩
    · exact hput b (.inl rfl)
    · exact hput (b + H) (.inr rfl)
  obtain ⟨m1, m2, m3, m4, m5⟩ := hm
  have hl' := m1.lame b b2 bH hb
  exact ⟨k, D', c', e, hk1, hc, m1, ⟨cp_clean hl'.c1 r1, cp_clean hl'.c2 r2, fun e => by omega⟩, m2, m3, m4, m5⟩
theorem spot_i {H i : Nat} (hi : i < 2) : i ∈ spots H ∧ i + H ∈ spots H := by
  have := spot_of H i
  rw [Nat.mod_eq_of_lt hi] at this
  exact this
end Go.Proofs.YtbjfgdahfpfgdaaGreatDoor.PgW

namespace Go.Proofs.YtbjfgdahfpfgdaaGreatDoor.PgW
open Go Go.RowKit Go.Maps Go.Proofs.YtbjfgdahfpfgdaaGreatDoor.Mem Go.Proofs.YtbjfgdahfpfgdaaGreatDoor.MapsW Go.Proofs.YtbjfgdahfpfgdaaGreatDoor.SeeW Go.Proofs.YtbjfgdahfpfgdaaGreatDoor.DevG Go.Proofs.YtbjfgdahfpfgdaaGreatDoor.PairG Go.Proofs.YtbjfgdahfpfgdaaGreatDoor.RefsW Go.Proofs.YtbjfgdahfpfgdaaGreatDoor.PgP Go.Proofs.YtbjfgdahfpfgdaaGreatDoor.RootP Go.Proofs.YtbjfgdahfpfgdaaGreatDoor.RootW Go.Proofs.YtbjfgdahfpfgdaaGreatDoor.ConcatW
set_option linter.unusedVariables false
set_option maxRecDepth 100000

theorem own_ge {w : World} {base : Nat} {e : TypeId} {va : Option Addr} {n c m : Nat} {xs : List Value} (h : w.ownsRow base e 1 (.slice va n c) m xs) : ∀ b o, va = some ⟨b, o, none⟩ → base ≤ b := by
  rintro b o rfl
  rcases h.2 with ⟨e, _⟩ | ⟨g, c', cur, e, hb, _⟩
  · cases e
  · cases e; exact hb
end Go.Proofs.YtbjfgdahfpfgdaaGreatDoor.PgW

namespace Go.Proofs.YtbjfgdahfpfgdaaGreatDoor.PgW
open Go Go.RowKit Go.Maps Go.Proofs.YtbjfgdahfpfgdaaGreatDoor.Mem Go.Proofs.YtbjfgdahfpfgdaaGreatDoor.MapsW Go.Proofs.YtbjfgdahfpfgdaaGreatDoor.SeeW Go.Proofs.YtbjfgdahfpfgdaaGreatDoor.DevG Go.Proofs.YtbjfgdahfpfgdaaGreatDoor.PairG Go.Proofs.YtbjfgdahfpfgdaaGreatDoor.RefsW Go.Proofs.YtbjfgdahfpfgdaaGreatDoor.PgP Go.Proofs.YtbjfgdahfpfgdaaGreatDoor.RootP Go.Proofs.YtbjfgdahfpfgdaaGreatDoor.RootW
set_option linter.unusedVariables false
set_option maxRecDepth 100000

/-- a device of which copies are wrong, no store kept -/
structure LameAt (Y : List Nat) (bs : List Addr) (w : World) (lo b n c d : Nat) (V : Int → Option (List Nat)) (C : Nat → List Nat) (ep np : Nat) (m : Mp) (D : Dv) (S : St) : Prop where
  at_ : At w lo d n m D
  li : Limp (GeoW.half b) S V C D
  bl : D.blocks = b
  b1 : 300 ≤ b
  b2 : b ≤ 6000
  cl : D.calls ≤ c
  np : D.np ≤ np
  ev : Ev w lo bs seven
  los : lo ≤ w.heap.size
  ep : S.ep = ep
  out : ∀ y ∈ Y, y < w.heap.size ∧ y ∉ own d m
/-- a store over it -/
structure LimM (Y : List Nat) (bs : List Addr) (w : World) (lo b n c s d : Nat) (V : Int → Option (List Nat)) (C : Nat → List Nat) (ep np : Nat) (m : Mp) (D : Dv) (I : Si) (S : St) : Prop where
  at_ : SAt w lo n m D I S
  li : Limp I.H S V C D
  hs : I.s = s
  hd : I.d = d
  hH : I.H = GeoW.half b
  bl : D.blocks = b
  b1 : 300 ≤ b
  b2 : b ≤ 6000
  cl : D.calls ≤ c
  hnp : D.np ≤ np
  ic : I.c ≤ np
  ev : Ev w lo bs seven
  los : lo ≤ w.heap.size
  ep : S.ep = ep
  out : ∀ y ∈ Y, y < w.heap.size ∧ y ∉ I.all m
def Lim (Y : List Nat) (bs : List Addr) (w : World) (lo b n c s d : Nat) (V : Int → Option (List Nat)) (C : Nat → List Nat) (ep np : Nat) : Prop := ∃ m D I S, LimM Y bs w lo b n c s d V C ep np m D I S
theorem limp_st {H : Nat} {S : St} {V : Int → Option (List Nat)} {C : Nat → List Nat} {D : Dv} (h : Limp H S V C D) (h0 : 0 < S.ep) : stOf S.ep S.tabs S.at_ = S := by
  have h1 := h.now
  have h2 := h.fit.rs h0
  obtain ⟨ep, rs, tabs, at_, now⟩ := S
  simp only at h1 h2
  subst h1 h2
  rfl
theorem LameAt.open_ {Y : List Nat} {bs : List Addr} {w : World} {lo b n c d : Nat} {V : Int → Option (List Nat)} {C : Nat → List Nat} {ep np : Nat} {m : Mp} {D : Dv} {S : St} (h : LameAt Y bs w lo b n c d V C ep np m D S) (hn : n < 680000) (hc : c < 600000) (hnp : np ≤ 1000) (hep : ep < 1000000) (h0 : 0 < ep) :
    Calls Tryz.prog 18 #[ptr d] w fun e w' => (∃ s', e = .returned (.tuple #[ptr s', .nilIface]) ∧ Lim Y bs w' lo b (n + 400 + 3 * np) (c + 10) s' d V C ep (np + 7)) ∧ Below lo w w' ∧ Kp Y w w' := by
  obtain ⟨hH2, hH5⟩ := half_two h.b1
  have hX := h.at_.own_lo
  have hbl := h.bl
  have hb1 := h.b1
  have hb2 := h.b2
  have hcl := h.cl
  have hnp2 := h.np
  have h0' : 0 < S.ep := by rw [h.ep]; exact h0
  have hfine : Fine ⟨(S.ep : Int), S.tabs⟩ := Fit.fine h.li.fit (by omega) h0' (by have := h.ep; omega)
  have hok := Fit.ok h.li.fit (by omega)
  have hrt := h.li.fit.rs h0'
  have hbe := h.li.best h0'
  rw [hrt] at hbe
  have ho := open_some bs lo d n m D w h.at_ h.ev (by omega) (by omega) h.los (H := GeoW.half b) (by rw [hbl]) (h.li.tabs h0') hbe h.li.fit.t7 hfine.g hfine.s (fun p => ?_) (fun i r hi => ?_) hok.2.2 (by omega) (by omega) (by omega) (by rw [h.li.fuse]; omega)
  · rw [limp_st h.li h0'] at ho
    refine ho.mono ?_
    rintro e w' ⟨p', hp', ht, hres⟩
    have hR := h.li.ran 7 (Nat.le_refl _)
    obtain ⟨F, e1, g3, g4, g5, g6⟩ := hR.limp.whole h0' (by rw [hR.blocks, h.bl]) hH2 (by rw [hrt]; exact hfine)
    have e1' : wholeT (tabRun S (GeoW.half b) D 7).1 S = (none, F) := e1
    have r1 := hR.blocks
    have r2 := hR.np
    have r3 := hR.calls
    rw [e1'] at hres
    obtain ⟨I', rfl, hd, hH, _, _, hic, q, hio, htb, hra⟩ := hres
    refine ⟨⟨I'.s, rfl, { m with p := p' }, F, I', S, q.mono (by show n + 400 + 3 * D.np ≤ _; omega), ?_, rfl, hd, by rw [hH], by rw [g4, r1, hbl], h.b1, h.b2, by omega, by omega, by omega, h.ev.turn ht hX, Nat.le_trans h.los ht.size, h.ep, fun y hy => ⟨Nat.lt_of_lt_of_le (h.out y hy).1 ht.size, fun hm => ?_⟩⟩, ht.below h.los hX, at_kp h.at_ h.out ht⟩
    · rw [hH]; exact g3
    · have hy2 := h.out y hy
      rcases List.mem_cons.1 hm with hm | hm
      · omega
      · rcases List.mem_append.1 hm with hm | hm
        · obtain ⟨o, e⟩ := mem_raB hm
          have := hra y o e
          omega
        · rcases hio y hm with hm | hm
          · exact hy2.2 hm
          · omega
  · unfold tref
    cases hA : S.at_ (p : Int) with
    | none => exact ⟨by decide, by decide, by decide⟩
    | some r => exact hok.1 _ r hA
  · obtain ⟨a, l, _, rfl, h2, _⟩ := h.li.fit.old_pg hi
    simp only
    omega
theorem Limp.there {H : Nat} {S : St} {V : Int → Option (List Nat)} {C : Nat → List Nat} {D : Dv} (h : Limp H S V C D) (p : Int) : S.there p = (V p).isSome := by
  unfold St.there
  rw [h.now]
  simp only
  cases hV : V p with
  | none => rw [h.fit.off p hV]; rfl
  | some l =>
    obtain ⟨a, h1, h2, _⟩ := h.fit.pg p l hV
    rw [h1]
    simp only [Option.getD_some, Option.isSome_some, decide_eq_true_eq]
    omega
theorem LimM.far {Y : List Nat} {bs : List Addr} {w w' : World} {lo b n n' c c' s d : Nat} {V : Int → Option (List Nat)} {C : Nat → List Nat} {ep np np' : Nat} {m m' : Mp} {D D' : Dv} {I I' : Si} {S : St} (h : LimM Y bs w lo b n c s d V C ep np m D I S) {X : List Nat}
    (q : SAt w' lo n' m' D' I' S) (hl : Limp I.H S V C D') (hs : I'.s = I.s) (hd : I'.d = I.d) (hH : I'.H = I.H) (hb : D'.blocks = D.blocks) (hc : D'.calls ≤ c') (hnp : D'.np ≤ np') (hic : I'.c ≤ np') (ht : Turn X w w') (hX : ∀ x ∈ X, lo ≤ x) (hI : ∀ x ∈ I'.all m', x ∈ I.all m ∨ w.heap.size ≤ x) :
    LimM Y bs w' lo b n' c' s d V C ep np' m' D' I' S :=
  ⟨q, by rw [hH]; exact hl, hs.trans h.hs, hd.trans h.hd, hH.trans h.hH, hb.trans h.bl, h.b1, h.b2, hc, hnp, hic, h.ev.turn ht hX, Nat.le_trans h.los ht.size, h.ep, fun y hy => ⟨Nat.lt_of_lt_of_le (h.out y hy).1 ht.size, fun hm => by
    rcases hI y hm with hm | hm
    · exact (h.out y hy).2 hm
    · have := (h.out y hy).1; omega⟩⟩
/-- a page is read, and mended where its first copy is wrong -/
theorem Lim.read {Y : List Nat} {bs : List Addr} {w : World} {lo b n c s d : Nat} {V : Int → Option (List Nat)} {C : Nat → List Nat} {ep np : Nat} (h : Lim Y bs w lo b n c s d V C ep np) (hn : n < 680000) (hc : c < 700000) (hnp : np < 900000) {p : Int} (hp : isP p = true) :
    Calls Tryz.prog 19 #[ptr s, .int .i64 p] w fun e w' => (match V p with
      | none => ∃ a, bs[8]? = some a ∧ e = .returned (.tuple #[.slice none 0 0, ev a])
      | some l => ∃ a cap, e = .returned (.tuple #[.slice a l.length cap, .nilIface]) ∧ Nums .u8 w' a l.length cap l) ∧ Lim Y bs w' lo b (n + 1) (c + 1) s d V C ep (np + 1) ∧ Below lo w w' ∧ Kp Y w w' := by
  obtain ⟨m, D, I, S, h⟩ := h
  obtain ⟨p0, p1, hf⟩ := isP_fits hp
  have hth := h.li.there p
  have hcl := h.cl
  have hnp2 := h.hnp
  have hic := h.ic
  have hkp : ∀ {w' : World}, Turn (I.p :: own I.d m) w w' → Kp Y w w' := fun ht => ⟨fun y hy => ht.block y (h.out y hy).1 fun hm => (h.out y hy).2 (Si.own_all (by
      rcases List.mem_cons.1 hm with rfl | hm
      · simp
      · exact UpF.own_sub hm)), fun a n cap l hl => DevG.nums_turn hl ht fun x hx => h.at_.nou8 x (by
      rcases List.mem_cons.1 hx with rfl | hx
      · simp
      · exact UpF.own_sub hx)⟩
  have hX : ∀ x ∈ I.p :: own I.d m, lo ≤ x := fun x hx => by
    rcases List.mem_cons.1 hx with rfl | hx
    · exact h.at_.pr.lop
    · exact h.at_.pr.dev.own_lo x hx
  cases hv : V p with
  | none =>
    rw [hv] at hth
    have hr := read_bad bs lo n m D I S p w h.at_ h.ev hf 8 (.inr ⟨hp, hth, rfl⟩)
    rw [h.hs] at hr
    refine hr.mono ?_
    rintro e w' ⟨h1, h2⟩
    exact ⟨h1, ⟨m, D, I, S, h.far ((h.at_.below h2).mono (by omega)) h.li rfl rfl rfl rfl (by omega) (by omega) (by omega) (Turn.of_below (S := []) h2) (fun x hx => by cases hx) fun x hx => .inl hx⟩, h2.mono h.los, hkp (Turn.of_below h2)⟩
  | some l =>
    obtain ⟨a, e1, e2, e3, e4⟩ := h.li.fit.pg p l hv
    have hz := h.li.fit.dom p (by rw [hv]; rfl)
    have e' : S.at_ ((p.toNat : Nat) : Int) = some ((a : Int), Crc.sum (pblk l)) := by rw [show ((p.toNat : Nat) : Int) = p by omega]; exact e1
    have au : a ∈ used S.tabs S.at_ I.H := mem_used.2 ⟨e3, .inr (.inr ⟨p.toNat, by omega, _, e', rfl⟩)⟩
    have hl := h.li.lame a e2 e3 au
    have hput := h.li.put e2 e3 au a (.inl rfl)
    rw [e4] at hl hput
    have hN : S.now p = none := by rw [h.li.now]
    have hrp : ∃ D' c', PairG.readP D I.H I.c a (Crc.sum (pblk l)) = (some (pblk l), D', c') ∧ Limp I.H S V C D' ∧ D'.blocks = D.blocks ∧ D'.calls ≤ D.calls + 1 ∧ D'.np ≤ D.np + 1 ∧ c' ≤ I.c + 1 := by
      rcases hl.readP I.c with ⟨g, _⟩ | ⟨g, _⟩
      · exact ⟨D, I.c, g, h.li, rfl, by omega, by omega, by omega⟩
      · exact ⟨_, _, g, hput, rfl, Nat.le_refl _, put_np D (a : Int) (pblk l), Nat.le_refl _⟩
    obtain ⟨D', c', g, g1, g2, g3, g4, g5⟩ := hrp
    have hr := read_at bs lo n m D D' I S p l a _ c' w h.at_ h.ev hp hN e1 e3 (by omega) (h.li.fit.len p l hv).2.1 h.li.down h.li.fuse h.li.bytes (by omega) (by omega) (by omega) g g2
    rw [h.hs] at hr
    refine hr.mono ?_
    rintro e w' ⟨⟨x, cap, h1, h2, _⟩, k, ht⟩
    exact ⟨⟨x, cap, h1, h2⟩, ⟨m, D', _, S, h.far k g1 (by exact h.hs.symm) rfl rfl g2 (by omega) (by omega) (by show c' ≤ _; omega) ht hX (Si.all_sub (.inl rfl) (.inl rfl) fun x hx => .inl (by have e := h.hs; subst e; exact hx))⟩, ht.below h.los hX, hkp ht⟩
/-- the device of a store that has committed all -/
theorem Store.lame {Y : List Nat} {bs : List Addr} {w : World} {lo b n c s d : Nat} {V : Int → Option (List Nat)} {ep : Nat} (h : Store Y bs w lo b n c s d V (fun _ => none) ep) :
    ∃ C m D S, LameAt Y bs w lo b n c d V C ep 0 m D S ∧ ∀ a, 2 ≤ a → a < GeoW.half b → a ∈ used S.tabs S.at_ (GeoW.half b) → Blk (C a) ∧ Sound D (a : Int) (C a) ∧ Sound D ((a + GeoW.half b : Nat) : Int) (C a) := by
  obtain ⟨m, D, I, S, h⟩ := h
  obtain ⟨C, hl, hs⟩ := h.st.limp
  have hS : ({ S with now := fun _ => none } : St) = S := by
    have h1 := h.now
    obtain ⟨ep, rs, tabs, at_, now⟩ := S
    simp only at h1
    subst h1
    rfl
  rw [hS] at hl
  rw [h.hH] at hl hs
  have hcl := h.cl
  have hnp := h.st.idle.np
  exact ⟨C, m, D, S, ⟨by rw [← h.hd]; exact h.at_.pr.dev, hl, h.bl, h.b1, h.b2, by omega, by omega, h.ev, h.los, h.ep, fun y hy => ⟨(h.out y hy).1, fun hm => (h.out y hy).2 (Si.own_all (UpF.own_sub (by rw [h.hd]; exact hm)))⟩⟩, hs⟩
end Go.Proofs.YtbjfgdahfpfgdaaGreatDoor.PgW
