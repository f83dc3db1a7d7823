/- Plain facts: what is found of a device on which roots were saved. -/
import Derived.Test.YtlljpljfmaaejaaDoorRootSave
import Derived.Test.YtlljpljfmaaejaaDoorRootLoad
import Derived.Test.YtlljpljfmaaejaaDoorGDevNew
namespace Go.Proofs.YtlljpljfmaaejaaDoor.DevG
open Go Go.RowKit Go.Maps Go.Proofs.YtlljpljfmaaejaaDoor.Mem Go.Proofs.YtlljpljfmaaejaaDoor.MapsW
set_option linter.unusedVariables false

/-- up, unarmed, nothing pending -/
structure Dv.Idle (D : Dv) : Prop where
  down : D.down = false
  fuse : D.fuse = 0
  np : D.np = 0
  pe : ∀ i, D.pe i = none
  fl : ∀ i l, D.fl i = some l → Crc.Bytes l
theorem Dv.Idle.new (b : Nat) : (Dv.new b).Idle := ⟨rfl, rfl, rfl, fun _ => rfl, fun i l h => (by cases h)⟩
theorem Dv.Idle.kept {D : Dv} (h : D.Idle) (i : Int) : Crc.Bytes (keptOf D i) := by
  unfold keptOf
  cases hF : D.fl i with
  | none =>
    intro x hx
    rw [(List.mem_replicate.1 hx).2]; decide
  | some l => exact h.fl i l hF
theorem Dv.Idle.read {D : Dv} (h : D.Idle) (i : Int) : D.read i = if D.fi i then none else some (keptOf D i) := by
  unfold Dv.read; rw [h.pe]
theorem Dv.Idle.bytes {D : Dv} (h : D.Idle) : ∀ i l, D.read i = some l → Crc.Bytes l := by
  intro i l hr
  rw [h.read] at hr
  split at hr
  · cases hr
  · cases hr; exact h.kept i
theorem Dv.new_read (b : Nat) (i : Int) : (Dv.new b).read i = some (List.replicate 256 0) := rfl
/-- what a device has behind a save that was told well -/
def Dv.saved (D : Dv) (H ep : Nat) (b : List Nat) : Dv := ((D.put ((ep % 2 : Nat) : Int) b).put ((ep % 2 + H : Nat) : Int) b).flush
theorem Dv.save_idle {D : Dv} (h : D.Idle) (H ep : Nat) (b : List Nat) : D.save H ep b = (none, D.saved H ep b) := by
  have e0 : D.tick = D := Dv.tick_zero h.fuse
  have f1 : (D.wrote (ep % 2) b).fuse = 0 := by have := (D.wrote_np (ep % 2) b).2.2.2; have := h.fuse; omega
  have f2 : ((D.wrote (ep % 2) b).wrote (ep % 2 + H) b).fuse = 0 := by have := ((D.wrote (ep % 2) b).wrote_np (ep % 2 + H) b).2.2.2; omega
  have e1 : (D.wrote (ep % 2) b) = D.put ((ep % 2 : Nat) : Int) b := by unfold Dv.wrote; rw [e0]
  have e2 : (D.wrote (ep % 2) b).wrote (ep % 2 + H) b = (D.put ((ep % 2 : Nat) : Int) b).put ((ep % 2 + H : Nat) : Int) b := by
    rw [← e1]; show (D.wrote (ep % 2) b).tick.put _ b = _; rw [Dv.tick_zero f1]
  have d1 : (D.wrote (ep % 2) b).down = false := by rw [e1]; exact h.down
  have d2 : ((D.wrote (ep % 2) b).wrote (ep % 2 + H) b).down = false := by rw [e2]; exact h.down
  unfold Dv.save Dv.flushT
  rw [e0, h.down, if_neg (by decide), Dv.tick_zero f1, d1, if_neg (by decide), Dv.tick_zero f2, d2, if_neg (by decide), e2]
  rfl
theorem Dv.saved_pe {D : Dv} (h : D.Idle) (H ep : Nat) (b : List Nat) (i : Int) : ((D.put ((ep % 2 : Nat) : Int) b).put ((ep % 2 + H : Nat) : Int) b).pe i = if i = ((ep % 2 : Nat) : Int) ∨ i = ((ep % 2 + H : Nat) : Int) then some b else none := by
  show upd (upd D.pe _ _) _ _ i = _
  by_cases h2 : i = ((ep % 2 + H : Nat) : Int)
  · rw [if_pos (.inr h2), h2, upd_same]
  · rw [upd_other _ _ h2]
    by_cases h1 : i = ((ep % 2 : Nat) : Int)
    · rw [if_pos (.inl h1), h1, upd_same]
    · rw [upd_other _ _ h1, if_neg (fun e => e.elim h1 h2), h.pe]
theorem Dv.saved_idle {D : Dv} (h : D.Idle) (H ep : Nat) {b : List Nat} (hb : Crc.Bytes b) : (D.saved H ep b).Idle := by
  refine ⟨h.down, h.fuse, rfl, fun _ => rfl, fun i l hl => ?_⟩
  change (if (((D.put ((ep % 2 : Nat) : Int) b).put ((ep % 2 + H : Nat) : Int) b).pe i).isSome then ((D.put ((ep % 2 : Nat) : Int) b).put ((ep % 2 + H : Nat) : Int) b).pe i else D.fl i) = some l at hl
  rw [Dv.saved_pe h] at hl
  by_cases c : i = ((ep % 2 : Nat) : Int) ∨ i = ((ep % 2 + H : Nat) : Int)
  · rw [if_pos c] at hl
    have e : some b = some l := hl
    cases e
    exact hb
  · rw [if_neg c] at hl
    exact h.fl i l hl
theorem Dv.saved_calls (D : Dv) (H ep : Nat) (b : List Nat) : (D.saved H ep b).calls = D.calls + 3 ∧ (D.saved H ep b).blocks = D.blocks := ⟨rfl, rfl⟩
/-- what is read of it, whether it may be faulted -/
theorem Dv.saved_at {D : Dv} (h : D.Idle) (H ep : Nat) (b : List Nat) (i : Int) :
    (D.saved H ep b).fl i = (if i = ((ep % 2 : Nat) : Int) ∨ i = ((ep % 2 + H : Nat) : Int) then some b else D.fl i) ∧
    (D.saved H ep b).fi i = (if i = ((ep % 2 : Nat) : Int) ∨ i = ((ep % 2 + H : Nat) : Int) then false else D.fi i) ∧
    (D.saved H ep b).fa i = (if i = ((ep % 2 : Nat) : Int) ∨ i = ((ep % 2 + H : Nat) : Int) then false else D.fa i) := by
  refine ⟨?_, ?_, ?_⟩
  · change (if (((D.put ((ep % 2 : Nat) : Int) b).put ((ep % 2 + H : Nat) : Int) b).pe i).isSome then ((D.put ((ep % 2 : Nat) : Int) b).put ((ep % 2 + H : Nat) : Int) b).pe i else D.fl i) = _
    rw [Dv.saved_pe h]
    split <;> rfl
  · change (if (((D.put ((ep % 2 : Nat) : Int) b).put ((ep % 2 + H : Nat) : Int) b).pe i).isSome then false else D.fi i) = _
    rw [Dv.saved_pe h]
    split <;> rfl
  · change (if (((D.put ((ep % 2 : Nat) : Int) b).put ((ep % 2 + H : Nat) : Int) b).pe i).isSome then false else D.fa i) = _
    rw [Dv.saved_pe h]
    split <;> rfl
theorem Dv.saved_read {D : Dv} (h : D.Idle) (H ep : Nat) {b : List Nat} (hb : Crc.Bytes b) (i : Int) :
    (D.saved H ep b).read i = if i = ((ep % 2 : Nat) : Int) ∨ i = ((ep % 2 + H : Nat) : Int) then some b else D.read i := by
  obtain ⟨h1, h2, _⟩ := Dv.saved_at h H ep b i
  rw [(Dv.saved_idle h H ep hb).read, h.read]
  unfold keptOf
  rw [h1, h2]
  split
  · rfl
  · rfl
theorem Ev.of_bs {w : World} {bs : List Addr} (h : SeeW.Bs w bs) (I : List Nat) (hI : ∀ i ∈ I, i < 24) : Ev w w.heap.size bs I := by
  obtain ⟨h1, h2, h3⟩ := h
  refine ⟨fun i hi g hg => ?_, fun i hi j hj e => (List.getElem?_inj (by rw [h1]; exact hI i hi) h2).1 e⟩
  obtain ⟨a, ha, hA⟩ := h3 i g hg
  exact ⟨a, ha, hA, World.block_lt_of_cell? w ⟨g, 0, none⟩ hA.1, hA.lt⟩
end Go.Proofs.YtlljpljfmaaejaaDoor.DevG
namespace Go.Proofs.YtlljpljfmaaejaaDoor.RootW
open Go Go.RowKit Go.Maps Go.Proofs.YtlljpljfmaaejaaDoor.Mem Go.Proofs.YtlljpljfmaaejaaDoor.MapsW Go.Proofs.YtlljpljfmaaejaaDoor.RootP Go.Proofs.YtlljpljfmaaejaaDoor.DevG
set_option linter.unusedVariables false
set_option maxRecDepth 100000

theorem parse_zeros : parse (List.replicate 256 0) = none := by
  unfold parse
  rw [if_pos (by decide), if_neg]
  intro h
  have := h.1.e1
  revert this
  decide
theorem fold_best (r : Rt) (f : Nat → Option Rt) : ∀ (l : List Nat) (b : Rt), (b = r ∨ b.ep < r.ep) → (∀ s ∈ l, ∀ q, f s = some q → q = r ∨ q.ep < r.ep) →
    (l.foldl (fun b i => better b (f i)) b = r ∨ (l.foldl (fun b i => better b (f i)) b).ep < r.ep) ∧ ((b = r ∨ ∃ s ∈ l, f s = some r) → l.foldl (fun b i => better b (f i)) b = r) := by
  intro l
  induction l with
  | nil =>
    intro b hb _
    exact ⟨hb, fun h => h.elim id (fun ⟨s, hs, _⟩ => by cases hs)⟩
  | cons s l ih =>
    intro b hb hl
    have h1 : better b (f s) = r ∨ (better b (f s)).ep < r.ep := by
      cases hf : f s with
      | none => exact hb
      | some q =>
        show (if b.ep < q.ep then q else b) = r ∨ (if b.ep < q.ep then q else b).ep < r.ep
        split
        · exact hl s (by simp) q hf
        · exact hb
    have h2 := ih (better b (f s)) h1 fun x hx => hl x (by simp [hx])
    refine ⟨h2.1, fun h => h2.2 ?_⟩
    rcases h with rfl | ⟨x, hx, hfx⟩
    · left
      cases hf : f s with
      | none => rfl
      | some q =>
        show (if b.ep < q.ep then q else b) = b
        rcases hl s (by simp) q hf with rfl | h3
        · simp
        · rw [if_neg (by omega)]
    · rcases List.mem_cons.1 hx with rfl | hx
      · left
        rw [hfx]
        show (if b.ep < r.ep then r else b) = r
        rcases hb with rfl | h3
        · simp
        · rw [if_pos h3]
      · exact .inr ⟨x, hx, hfx⟩
/-- the root of the greatest epoch is found -/
theorem best_of {D : Dv} {H : Nat} {r : Rt} (h0 : 0 < r.ep) (h1 : ∃ s ∈ spots H, oneOf D (s : Int) = some r) (h2 : ∀ s ∈ spots H, ∀ q, oneOf D (s : Int) = some q → q = r ∨ q.ep < r.ep) : bestOf D H = r :=
  (fold_best r (fun i => oneOf D (i : Int)) (spots H) ⟨0, []⟩ (.inr h0) h2).2 (.inr h1)
theorem best_none {D : Dv} {H : Nat} (h : ∀ s ∈ spots H, oneOf D (s : Int) = none) : bestOf D H = ⟨0, []⟩ := by
  unfold bestOf bestUp
  rw [show (spots H).take 4 = spots H from rfl]
  revert h
  generalize spots H = l
  induction l with
  | nil => intro _; rfl
  | cons s l ih =>
    intro h
    rw [List.foldl_cons, h s (by simp)]
    exact ih fun x hx => h x (by simp [hx])
/-- a root that was turned -/
theorem parse_turned {r : Rt} (hg : RootP.Good r) (hs : ∀ x ∈ r.rs, x.2 < 4294967296) (at_ : Int) (t : Nat) (hne : Crc.turned (enc r) at_ t ≠ enc r) : parse (Crc.turned (enc r) at_ t) = none := by
  cases hp : parse (Crc.turned (enc r) at_ t) with
  | none => rfl
  | some q =>
    exfalso
    obtain ⟨h1, h2⟩ := parse_some hp
    have h3 : half q = half r := by
      rcases Int.lt_or_le at_ 0 with hn | hn
      · exact absurd (Crc.turned_neg _ t hn 4) hne
      · obtain ⟨p, rfl⟩ := Int.eq_ofNat_of_zero_le hn
        refine halves_eq p fun i hi => ?_
        rw [h2]
        rw [show Crc.turned (enc r) (p : Int) t = Crc.turnK (enc r) (p : Int) t 4 from rfl, Crc.turnK_get]
        cases (enc r)[i]? with
        | none => rfl
        | some c => simp only [Option.map_some]; rw [if_neg hi]
    exact hne (by rw [← h2]; unfold enc; rw [h3])
end Go.Proofs.YtlljpljfmaaejaaDoor.RootW
