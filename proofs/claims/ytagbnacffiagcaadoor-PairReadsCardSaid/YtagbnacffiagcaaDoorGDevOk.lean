/- Plain facts about what a device holds: each row is a block's bytes. -/
import Derived.Test.YtagbnacffiagcaaDoorGDevNew
import Derived.Test.YtagbnacffiagcaaDoorPairPlain
namespace Go.Proofs.YtagbnacffiagcaaDoor.DevG
open Go Go.Maps Go.Proofs.YtagbnacffiagcaaDoor.MapsW

/-- a block's bytes -/
def Blk (l : List Nat) : Prop := Crc.Bytes l ∧ l.length = 256
structure Ok (D : Dv) : Prop where
  fl : ∀ j l, D.fl j = some l → Blk l
  pe : ∀ j l, D.pe j = some l → Blk l
theorem Ok.new (b : Nat) : Ok (Dv.new b) := ⟨fun j l h => (by cases h), fun j l h => (by cases h)⟩
theorem Ok.put {D : Dv} (h : Ok D) {i : Int} {l : List Nat} (hl : Blk l) : Ok (D.put i l) := by
  refine ⟨h.fl, fun j l' hj => ?_⟩
  by_cases e : j = i
  · subst e
    rw [show (D.put j l).pe j = some l from upd_same _ _ _] at hj
    cases hj
    exact hl
  · rw [show (D.put i l).pe j = D.pe j from upd_other _ _ e] at hj
    exact h.pe j l' hj
theorem Ok.flush {D : Dv} (h : Ok D) : Ok D.flush := by
  refine ⟨fun j l hj => ?_, fun j l hj => (by cases hj)⟩
  change (if (D.pe j).isSome then D.pe j else D.fl j) = some l at hj
  split at hj
  · exact h.pe j l hj
  · exact h.fl j l hj
theorem Ok.kept {D : Dv} (h : Ok D) (i : Int) : Blk (keptOf D i) := by
  unfold keptOf
  cases hF : D.fl i with
  | none => exact ⟨Crc.zeros_bytes 256, List.length_replicate ..⟩
  | some l => exact h.fl i l hF
theorem Ok.spoil {D : Dv} (h : Ok D) (i at_ : Int) (t : Nat) : Ok (D.spoil i at_ t) := by
  unfold Dv.spoil
  split
  · refine ⟨fun j l hj => ?_, h.pe⟩
    change upd D.fl i (some _) j = some l at hj
    by_cases e : j = i
    · subst e
      rw [upd_same] at hj
      cases hj
      exact ⟨Crc.turned_bytes (h.kept j).1 at_ t, by rw [Crc.turned_length]; exact (h.kept j).2⟩
    · rw [upd_other _ _ e] at hj
      exact h.fl j l hj
  · exact h
theorem Ok.fail {D : Dv} (h : Ok D) (i : Int) : Ok (D.fail i) := by
  unfold Dv.fail
  split
  · exact ⟨h.fl, h.pe⟩
  · exact h
theorem Ok.read {D : Dv} (h : Ok D) {j : Int} {l : List Nat} (hj : D.read j = some l) : Blk l := by
  unfold Dv.read at hj
  cases hp : D.pe j with
  | some l' => rw [hp] at hj; cases hj; exact h.pe j _ hp
  | none =>
    rw [hp] at hj
    simp only at hj
    split at hj
    · cases hj
    · cases hj; exact h.kept j
theorem pad_blk {l : List Nat} (hb : Crc.Bytes l) (hl : l.length ≤ 256) : Blk (Crc.pad l) := ⟨Crc.pad_bytes hb, Crc.pad_length hl⟩

/-- what is read where nothing is pending -/
theorem read_flushed {D : Dv} {j : Int} (hp : D.pe j = none) (hi : D.fi j = false) : D.read j = some (keptOf D j) := by
  unfold Dv.read; rw [hp]; simp only; rw [hi]; rfl
theorem read_pending {D : Dv} {j : Int} {l : List Nat} (hp : D.pe j = some l) : D.read j = some l := by
  unfold Dv.read; rw [hp]
theorem read_failed {D : Dv} {j : Int} (hp : D.pe j = none) (hi : D.fi j = true) : D.read j = none := by
  unfold Dv.read; rw [hp]; simp only; rw [hi]; rfl
end Go.Proofs.YtagbnacffiagcaaDoor.DevG
