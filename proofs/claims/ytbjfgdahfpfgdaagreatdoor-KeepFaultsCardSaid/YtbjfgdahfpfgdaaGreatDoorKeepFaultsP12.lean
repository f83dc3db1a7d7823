/- Plain facts: what is found of a device on which roots were saved; Plain facts: two roots saved one behind the other; A store over a device that stands: what a commit leaves of both; The walks of a store's Write, Drop, Read; What stands while a store writes; The walk of a store's whole. -/
import Derived.Test.YtbjfgdahfpfgdaaGreatDoorKeepFaultsP10
import Derived.Test.YtbjfgdahfpfgdaaGreatDoorKeepFaultsP6
import Derived.Test.YtbjfgdahfpfgdaaGreatDoorKeepFaultsP3
import Derived.Test.YtbjfgdahfpfgdaaGreatDoorKeepFaultsP8
import Derived.Test.YtbjfgdahfpfgdaaGreatDoorKeepFaultsP11
import Derived.Test.YtbjfgdahfpfgdaaGreatDoorKeepFaultsP9
import Derived.Test.YtbjfgdahfpfgdaaGreatDoorKeepFaultsP5
import Derived.Deep.RegionHeld3
namespace Go.Proofs.YtbjfgdahfpfgdaaGreatDoor.DevG
open Go Go.RowKit Go.Maps Go.Proofs.YtbjfgdahfpfgdaaGreatDoor.Mem Go.Proofs.YtbjfgdahfpfgdaaGreatDoor.MapsW
set_option linter.unusedVariables false

/-- up, unarmed, nothing pending -/
structure Dv.Idle (D : Dv) : Prop where
  down : D.down = false
  fuse : D.fuse = 0
  np : D.np = 0
  pe : ∀ i, D.pe i = none
  fl : ∀ i l, D.fl i = some l → Crc.Bytes l
theorem Dv.Idle.new (b : Nat) : (Dv.new b).Idle := ⟨rfl, rfl, rfl, fun _ => rfl, fun i l h => (by cases h)⟩
theorem Dv.Idle.kept {D : Dv} (h : D.Idle) (i : Int) : Crc.Bytes (keptOf D i) := by
  unfold keptOf
  cases hF : D.fl i with
  | none =>
    intro x hx
    rw [(List.mem_replicate.1 hx).2]; decide
  | some l => exact h.fl i l hF
theorem Dv.Idle.read {D : Dv} (h : D.Idle) (i : Int) : D.read i = if D.fi i then none else some (keptOf D i) := by
  unfold Dv.read; rw [h.pe]
theorem Dv.Idle.bytes {D : Dv} (h : D.Idle) : ∀ i l, D.read i = some l → Crc.Bytes l := by
  intro i l hr
  rw [h.read] at hr
  split at hr
  · cases hr
  · cases hr; exact h.kept i
theorem Dv.new_read (b : Nat) (i : Int) : (Dv.new b).read i = some (List.replicate 256 0) := rfl
/-- what a device has behind a save that was told well -/
def Dv.saved (D : Dv) (H ep : Nat) (b : List Nat) : Dv := ((D.put ((ep % 2 : Nat) : Int) b).put ((ep % 2 + H : Nat) : Int) b).flush
theorem Dv.save_idle {D : Dv} (h : D.Idle) (H ep : Nat) (b : List Nat) : D.save H ep b = (none, D.saved H ep b) := by
  have e0 : D.tick = D := Dv.tick_zero h.fuse
  have f1 : (D.wrote (ep % 2) b).fuse = 0 := by have := (D.wrote_np (ep % 2) b).2.2.2; have := h.fuse; omega
  have f2 : ((D.wrote (ep % 2) b).wrote (ep % 2 + H) b).fuse = 0 := by have := ((D.wrote (ep % 2) b).wrote_np (ep % 2 + H) b).2.2.2; omega
  have e1 : (D.wrote (ep % 2) b) = D.put ((ep % 2 : Nat) : Int) b := by unfold Dv.wrote; rw [e0]
  have e2 : (D.wrote (ep % 2) b).wrote (ep % 2 + H) b = (D.put ((ep % 2 : Nat) : Int) b).put ((ep % 2 + H : Nat) : Int) b := by
    rw [← e1]; show (D.wrote (ep % 2) b).tick.put _ b = _; rw [Dv.tick_zero f1]
  have d1 : (D.wrote (ep % 2) b).down = false := by rw [e1]; exact h.down
  have d2 : ((D.wrote (ep % 2) b).wrote (ep % 2 + H) b).down = false := by rw [e2]; exact h.down
  unfold Dv.save Dv.flushT
  rw [e0, h.down, if_neg (by decide), Dv.tick_zero f1, d1, if_neg (by decide), Dv.tick_zero f2, d2, if_neg (by decide), e2]
  rfl
theorem Dv.saved_pe {D : Dv} (h : D.Idle) (H ep : Nat) (b : List Nat) (i : Int) : ((D.put ((ep % 2 : Nat) : Int) b).put ((ep % 2 + H : Nat) : Int) b).pe i = if i = ((ep % 2 : Nat) : Int) ∨ i = ((ep % 2 + H : Nat) : Int) then some b else none := by
  show upd (upd D.pe _ _) _ _ i = _
  by_cases h2 : i = ((ep % 2 + H : Nat) : Int)
  · rw [if_pos (.inr h2), h2, upd_same]
  · rw [upd_other _ _ h2]
    by_cases h1 : i = ((ep % 2 : Nat) : Int)
    · rw [if_pos (.inl h1), h1, upd_same]
    · rw [upd_other _ _ h1, if_neg (fun e => e.elim h1 h2), h.pe]
theorem Dv.saved_idle {D : Dv} (h : D.Idle) (H ep : Nat) {b : List Nat} (hb : Crc.Bytes b) : (D.saved H ep b).Idle := by
  refine ⟨h.down, h.fuse, rfl, fun _ => rfl, fun i l hl => ?_⟩
  change (if (((D.put ((ep % 2 : Nat) : Int) b).put ((ep % 2 + H : Nat) : Int) b).pe i).isSome then ((D.put ((ep % 2 : Nat) : Int) b).put ((ep % 2 + H : Nat) : Int) b).pe i else D.fl i) = some l at hl
  rw [Dv.saved_pe h] at hl
  by_cases c : i = ((ep % 2 : Nat) : Int) ∨ i = ((ep % 2 + H : Nat) : Int)
  · rw [if_pos c] at hl
    have e : some b = some l := hl
    cases e
    exact hb
  · rw [if_neg c] at hl
    exact h.fl i l hl
theorem Dv.saved_calls (D : Dv) (H ep : Nat) (b : List Nat) : (D.saved H ep b).calls = D.calls + 3 ∧ (D.saved H ep b).blocks = D.blocks := ⟨rfl, rfl⟩
/-- what is read of it, whether it may be faulted -/
theorem Dv.saved_at {D : Dv} (h : D.Idle) (H ep : Nat) (b : List Nat) (i : Int) :
    (D.saved H ep b).fl i = (if i = ((ep % 2 : Nat) : Int) ∨ i = ((ep % 2 + H : Nat) : Int) then some b else D.fl i) ∧
    (D.saved H ep b).fi i = (if i = ((ep % 2 : Nat) : Int) ∨ i = ((ep % 2 + H : Nat) : Int) then false else D.fi i) ∧
    (D.saved H ep b).fa i = (if i = ((ep % 2 : Nat) : Int) ∨ i = ((ep % 2 + H : Nat) : Int) then false else D.fa i) := by
  refine ⟨?_, ?_, ?_⟩
  · change (if (((D.put ((ep % 2 : Nat) : Int) b).put ((ep % 2 + H : Nat) : Int) b).pe i).isSome then ((D.put ((ep % 2 : Nat) : Int) b).put ((ep % 2 + H : Nat) : Int) b).pe i else D.fl i) = _
    rw [Dv.saved_pe h]
    split <;> rfl
  · change (if (((D.put ((ep % 2 : Nat) : Int) b).put ((ep % 2 + H : Nat) : Int) b).pe i).isSome then false else D.fi i) = _
    rw [Dv.saved_pe h]
    split <;> rfl
  · change (if (((D.put ((ep % 2 : Nat) : Int) b).put ((ep % 2 + H : Nat) : Int) b).pe i).isSome then false else D.fa i) = _
    rw [Dv.saved_pe h]
    split <;> rfl
theorem Dv.saved_read {D : Dv} (h : D.Idle) (H ep : Nat) {b : List Nat} (hb : Crc.Bytes b) (i : Int) :
    (D.saved H ep b).read i = if i = ((ep % 2 : Nat) : Int) ∨ i = ((ep % 2 + H : Nat) : Int) then some b else D.read i := by
  obtain ⟨h1, h2, _⟩ := Dv.saved_at h H ep b i
  rw [(Dv.saved_idle h H ep hb).read, h.read]
  unfold keptOf
  rw [h1, h2]
  split
  · rfl
  · rfl
end Go.Proofs.YtbjfgdahfpfgdaaGreatDoor.DevG
namespace Go.Proofs.YtbjfgdahfpfgdaaGreatDoor.RootW
open Go Go.RowKit Go.Maps Go.Proofs.YtbjfgdahfpfgdaaGreatDoor.Mem Go.Proofs.YtbjfgdahfpfgdaaGreatDoor.MapsW Go.Proofs.YtbjfgdahfpfgdaaGreatDoor.RootP Go.Proofs.YtbjfgdahfpfgdaaGreatDoor.DevG
set_option linter.unusedVariables false
set_option maxRecDepth 100000

theorem parse_zeros : parse (List.replicate 256 0) = none := by
  unfold parse
  rw [if_pos (by decide), if_neg]
  intro h
  have := h.1.e1
  revert this
  decide
theorem fold_best (r : Rt) (f : Nat → Option Rt) : ∀ (l : List Nat) (b : Rt), (b = r ∨ b.ep < r.ep) → (∀ s ∈ l, ∀ q, f s = some q → q = r ∨ q.ep < r.ep) →
    (l.foldl (fun b i => better b (f i)) b = r ∨ (l.foldl (fun b i => better b (f i)) b).ep < r.ep) ∧ ((b = r ∨ ∃ s ∈ l, f s = some r) → l.foldl (fun b i => better b (f i)) b = r) := by
  intro l
  induction l with
  | nil =>
    intro b hb _
    exact ⟨hb, fun h => h.elim id (fun ⟨s, hs, _⟩ => by cases hs)⟩
  | cons s l ih =>
    intro b hb hl
    have h1 : better b (f s) = r ∨ (better b (f s)).ep < r.ep := by
      cases hf : f s with
      | none => exact hb
      | some q =>
        show (if b.ep < q.ep then q else b) = r ∨ (if b.ep < q.ep then q else b).ep < r.ep
        split
        · exact hl s (by simp) q hf
        · exact hb
    have h2 := ih (better b (f s)) h1 fun x hx => hl x (by simp [hx])
    refine ⟨h2.1, fun h => h2.2 ?_⟩
    rcases h with rfl | ⟨x, hx, hfx⟩
    · left
      cases hf : f s with
      | none => rfl
      | some q =>
        show (if b.ep < q.ep then q else b) = b
        rcases hl s (by simp) q hf with rfl | h3
        · simp
        · rw [if_neg (by omega)]
    · rcases List.mem_cons.1 hx with rfl | hx
      · left
        rw [hfx]
        show (if b.ep < r.ep then r else b) = r
        rcases hb with rfl | h3
        · simp
        · rw [if_pos h3]
      · exact .inr ⟨x, hx, hfx⟩
/-- the root of the greatest epoch is found -/
theorem best_of {D : Dv} {H : Nat} {r : Rt} (h0 : 0 < r.ep) (h1 : ∃ s ∈ spots H, oneOf D (s : Int) = some r) (h2 : ∀ s ∈ spots H, ∀ q, oneOf D (s : Int) = some q → q = r ∨ q.ep < r.ep) : bestOf D H = r :=
  (fold_best r (fun i => oneOf D (i : Int)) (spots H) ⟨0, []⟩ (.inr h0) h2).2 (.inr h1)
theorem best_none {D : Dv} {H : Nat} (h : ∀ s ∈ spots H, oneOf D (s : Int) = none) : bestOf D H = ⟨0, []⟩ := by
  unfold bestOf bestUp
  rw [show (spots H).take 4 = spots H from rfl]
  revert h
  generalize spots H = l
  induction l with
  | nil => intro _; rfl
  | cons s l ih =>
    intro h
    rw [List.foldl_cons, h s (by simp)]
    exact ih fun x hx => h x (by simp [hx])
/-- a root that was turned -/
theorem parse_turned {r : Rt} (hg : RootP.Good r) (hs : ∀ x ∈ r.rs, x.2 < 4294967296) (at_ : Int) (t : Nat) (hne : Crc.turned (enc r) at_ t ≠ enc r) : parse (Crc.turned (enc r) at_ t) = none := by
  cases hp : parse (Crc.turned (enc r) at_ t) with
  | none => rfl
  | some q =>
    exfalso
    obtain ⟨h1, h2⟩ := parse_some hp
    have h3 : half q = half r := by
      rcases Int.lt_or_le at_ 0 with hn | hn
      · exact absurd (Crc.turned_neg _ t hn 4) hne
      · obtain ⟨p, rfl⟩ := Int.eq_ofNat_of_zero_le hn
        refine halves_eq p fun i hi => ?_
        rw [h2]
        rw [show Crc.turned (enc r) (p : Int) t = Crc.turnK (enc r) (p : Int) t 4 from rfl, Crc.turnK_get]
        cases (enc r)[i]? with
        | none => rfl
        | some c => simp only [Option.map_some]; rw [if_neg hi]
    exact hne (by rw [← h2]; unfold enc; rw [h3])
end Go.Proofs.YtbjfgdahfpfgdaaGreatDoor.RootW

namespace Go.Proofs.YtbjfgdahfpfgdaaGreatDoor.DevG
open Go Go.RowKit Go.Maps Go.Proofs.YtbjfgdahfpfgdaaGreatDoor.Mem Go.Proofs.YtbjfgdahfpfgdaaGreatDoor.MapsW
set_option linter.unusedVariables false

end Go.Proofs.YtbjfgdahfpfgdaaGreatDoor.DevG
namespace Go.Proofs.YtbjfgdahfpfgdaaGreatDoor.RootW
open Go Go.RowKit Go.Maps Go.Proofs.YtbjfgdahfpfgdaaGreatDoor.Mem Go.Proofs.YtbjfgdahfpfgdaaGreatDoor.MapsW Go.Proofs.YtbjfgdahfpfgdaaGreatDoor.RootP Go.Proofs.YtbjfgdahfpfgdaaGreatDoor.DevG
set_option linter.unusedVariables false

/-- a root that may be, with its sums -/
structure Fine (r : Rt) : Prop where
  g : RootP.Good r
  s : ∀ x ∈ r.rs, x.2 < 4294967296
theorem Fine.parse {r : Rt} (h : Fine r) : parse (enc r) = some r := parse_enc h.g h.s
theorem Fine.bytes {r : Rt} (h : Fine r) : Crc.Bytes (enc r) := enc_bytes h.g.n
theorem Fine.ep {r : Rt} (h : Fine r) : 0 < r.ep ∧ ((r.ep.toNat : Nat) : Int) = r.ep ∧ 0 < r.ep.toNat ∧ r.ep.toNat ≤ 1099511627776 := by
  have h1 := h.g.e1
  have h2 := h.g.e2
  omega
/-- r saved, then q, in the other two blocks -/
def two (D : Dv) (H : Nat) (r q : Rt) : Dv := (D.saved H r.ep.toNat (enc r)).saved H q.ep.toNat (enc q)
theorem one_of {D : Dv} {i : Int} {r : Rt} (hr : Fine r) (h : D.read i = some (enc r)) : oneOf D i = some r := by
  unfold oneOf
  rw [h]
  exact hr.parse
theorem spots_mem {H s : Nat} (h : s ∈ spots H) : s = 0 ∨ s = H ∨ s = 1 ∨ s = 1 + H := by simpa [spots] using h
theorem spot_of (H ep : Nat) : ep % 2 ∈ spots H ∧ ep % 2 + H ∈ spots H := by
  rcases Nat.mod_two_eq_zero_or_one ep with h | h <;> rw [h] <;> simp [spots]
end Go.Proofs.YtbjfgdahfpfgdaaGreatDoor.RootW

namespace Go.Proofs.YtbjfgdahfpfgdaaGreatDoor.PgW
open Go Go.RowKit Go.Maps Go.Proofs.YtbjfgdahfpfgdaaGreatDoor.Mem Go.Proofs.YtbjfgdahfpfgdaaGreatDoor.RootP Go.Proofs.YtbjfgdahfpfgdaaGreatDoor.MapsW Go.Proofs.YtbjfgdahfpfgdaaGreatDoor.PgP Go.Proofs.YtbjfgdahfpfgdaaGreatDoor.DevG Go.Proofs.YtbjfgdahfpfgdaaGreatDoor.RootW
set_option linter.unusedVariables false
set_option maxRecDepth 100000

/-- both copies read so -/
abbrev Both (D : Dv) (H : Nat) (a : Nat) (l : List Nat) : Prop := D.read (a : Int) = some l ∧ D.read ((a + H : Nat) : Int) = some l
/-- what roots a device has: the greatest one, in its two blocks -/
structure Rooted (D : Dv) (H ep : Nat) (rs : List Ref) : Prop where
  le : ∀ s ∈ spots H, ∀ q, oneOf D (s : Int) = some q → q.ep ≤ (ep : Int)
  eq : ∀ s ∈ spots H, ∀ q, oneOf D (s : Int) = some q → q.ep = (ep : Int) → q = ⟨(ep : Int), rs⟩
  two : 0 < ep → oneOf D ((ep % 2 : Nat) : Int) = some ⟨(ep : Int), rs⟩ ∧ oneOf D ((ep % 2 + H : Nat) : Int) = some ⟨(ep : Int), rs⟩
theorem one_pos {D : Dv} {i : Int} {q : Rt} (h : oneOf D i = some q) : 1 ≤ q.ep := by
  unfold oneOf at h
  cases hr : D.read i with
  | none => rw [hr] at h; cases h
  | some l => rw [hr] at h; exact (parse_some h).1.e1
theorem Rooted.none {D : Dv} {H : Nat} {rs : List Ref} (h : Rooted D H 0 rs) : bestOf D H = ⟨0, []⟩ := best_none fun s hs => by
  cases ho : oneOf D (s : Int) with
  | none => rfl
  | some q => have := h.le s hs q ho; have := one_pos ho; omega
theorem Rooted.best {D : Dv} {H ep : Nat} {rs : List Ref} (h : Rooted D H ep rs) (h0 : 0 < ep) : bestOf D H = ⟨(ep : Int), rs⟩ := by
  refine best_of (by show (0 : Int) < (ep : Int); omega) ⟨ep % 2, (spot_of H ep).1, (h.two h0).1⟩ fun s hs q hq => ?_
  by_cases e : q.ep = (ep : Int)
  · exact .inl (h.eq s hs q hq e)
  · have := h.le s hs q hq
    right
    show q.ep < (ep : Int)
    omega
theorem Rooted.copies {D : Dv} {H ep : Nat} {rs : List Ref} (h : Rooted D H ep rs) (h0 : 0 < ep) : copies D H ep = 2 := by
  have e : ∀ i : Nat, oneOf D (i : Int) = some ⟨(ep : Int), rs⟩ → hasEp D ep i = true := fun i hi => by
    unfold hasEp
    rw [hi]
    exact decide_eq_true rfl
  unfold RootW.copies copiesUp
  simp only [pair, List.take_succ_cons, List.take_zero, List.countP_cons, List.countP_nil, e _ (h.two h0).1, e _ (h.two h0).2, if_true]
theorem Rooted.new (b H : Nat) : Rooted (Dv.new b) H 0 [] := by
  have h : ∀ i, oneOf (Dv.new b) i = Option.none := fun i => by unfold oneOf; rw [Dv.new_read]; exact parse_zeros
  exact ⟨fun s _ q hq => (by rw [h] at hq; cases hq), fun s _ q hq => (by rw [h] at hq; cases hq), fun h => absurd h (by omega)⟩

/-- pairs put -/
def puts (D : Dv) (H : Nat) (ws : List (Nat × List Nat)) : Dv := ws.foldl (fun D b => (D.put (b.1 : Int) b.2).put ((b.1 + H : Nat) : Int) b.2) D
theorem puts_cons (D : Dv) (H : Nat) (b : Nat × List Nat) (ws : List (Nat × List Nat)) : puts D H (b :: ws) = puts ((D.put (b.1 : Int) b.2).put ((b.1 + H : Nat) : Int) b.2) H ws := rfl
theorem puts_same (H : Nat) : ∀ (ws : List (Nat × List Nat)) (D : Dv), (puts D H ws).down = D.down ∧ (puts D H ws).fuse = D.fuse ∧ (puts D H ws).fl = D.fl ∧ (puts D H ws).fi = D.fi ∧ (puts D H ws).fa = D.fa ∧ (puts D H ws).blocks = D.blocks ∧ (puts D H ws).calls = D.calls + 2 * ws.length
  | [], D => ⟨rfl, rfl, rfl, rfl, rfl, rfl, rfl⟩
  | b :: ws, D => by
    obtain ⟨h1, h2, h3, h4, h5, h6, h7⟩ := puts_same H ws ((D.put (b.1 : Int) b.2).put ((b.1 + H : Nat) : Int) b.2)
    refine ⟨h1, h2, h3, h4, h5, h6, ?_⟩
    rw [puts_cons, h7]
    show D.calls + 1 + 1 + 2 * ws.length = _
    rw [List.length_cons]
    omega
theorem wall_idle (H : Nat) : ∀ (ws : List (Nat × List Nat)) (D : Dv), D.down = false → D.fuse = 0 → wall D H ws = (none, puts D H ws)
  | [], D, _, _ => rfl
  | b :: ws, D, hd, hz => by
    have e1 : DevG.Dv.wrote D b.1 b.2 = D.put (b.1 : Int) b.2 := by unfold DevG.Dv.wrote; rw [Dv.tick_zero hz]
    have e2 : wpair D H b.1 b.2 = (none, (D.put (b.1 : Int) b.2).put ((b.1 + H : Nat) : Int) b.2) := by
      unfold wpair wstage
      rw [Dv.tick_zero hz, hd, if_neg (by decide), e1, Dv.tick_zero (D := D.put (b.1 : Int) b.2) hz]
      rw [show (D.put (b.1 : Int) b.2).down = false from hd, if_neg (by decide)]
      unfold DevG.Dv.wrote
      rw [Dv.tick_zero (D := D.put (b.1 : Int) b.2) hz]
      rfl
    unfold wall
    rw [e2]
    exact wall_idle H ws _ hd hz
theorem puts_other (H : Nat) (i : Int) : ∀ (ws : List (Nat × List Nat)) (D : Dv), (∀ b ∈ ws, i ≠ (b.1 : Int) ∧ i ≠ ((b.1 + H : Nat) : Int)) → (puts D H ws).pe i = D.pe i
  | [], D, _ => rfl
  | b :: ws, D, h => by
    rw [puts_cons, puts_other H i ws _ fun c hc => h c (by simp [hc])]
    have hb := h b (by simp)
    show upd (upd D.pe _ _) _ _ i = _
    rw [upd_other _ _ hb.2, upd_other _ _ hb.1]
theorem puts_mem (H : Nat) : ∀ (ws : List (Nat × List Nat)) (D : Dv), (ws.map (·.1)).Nodup → (∀ b ∈ ws, b.1 < H) → ∀ b ∈ ws, (puts D H ws).pe (b.1 : Int) = some b.2 ∧ (puts D H ws).pe ((b.1 + H : Nat) : Int) = some b.2
  | [], D, _, _, b, hb => by cases hb
  | c :: ws, D, hn, hH, b, hb => by
    rw [List.map_cons, List.nodup_cons] at hn
    rw [puts_cons]
    rcases List.mem_cons.1 hb with rfl | hb
    · have hne : ∀ x ∈ ws, x.1 ≠ b.1 := fun x hx e => hn.1 (List.mem_map.2 ⟨x, hx, e⟩)
      have h1 := hH b (by simp)
      constructor
      · rw [puts_other H _ ws _ fun x hx => ⟨fun e => hne x hx (by omega), fun e => by omega⟩]
        show upd (upd D.pe _ _) _ _ _ = _
        rw [upd_other _ _ (by omega), upd_same]
      · rw [puts_other H _ ws _ fun x hx => ⟨fun e => by have := hH x (by simp [hx]); omega, fun e => hne x hx (by omega)⟩]
        show upd (upd D.pe _ _) _ _ _ = _
        rw [upd_same]
    · exact puts_mem H ws _ hn.2 (fun x hx => hH x (by simp [hx])) b hb
theorem puts_only (H : Nat) (i : Int) (l : List Nat) : ∀ (ws : List (Nat × List Nat)) (D : Dv), (puts D H ws).pe i = some l → D.pe i = some l ∨ ∃ b ∈ ws, b.2 = l ∧ (i = (b.1 : Int) ∨ i = ((b.1 + H : Nat) : Int))
  | [], D, h => .inl h
  | c :: ws, D, h => by
    rw [puts_cons] at h
    rcases puts_only H i l ws _ h with h | ⟨b, hb, h1, h2⟩
    · change upd (upd D.pe _ _) _ _ i = _ at h
      by_cases e2 : i = ((c.1 + H : Nat) : Int)
      · rw [e2, upd_same] at h
        exact .inr ⟨c, by simp, Option.some.inj h, .inr e2⟩
      · rw [upd_other _ _ e2] at h
        by_cases e1 : i = (c.1 : Int)
        · rw [e1, upd_same] at h
          exact .inr ⟨c, by simp, Option.some.inj h, .inl e1⟩
        · rw [upd_other _ _ e1] at h
          exact .inl h
    · exact .inr ⟨b, by simp [hb], h1, h2⟩
/-- flushed over a device on which nothing was pending -/
structure Flushed (D E : Dv) (H : Nat) (ws : List (Nat × List Nat)) : Prop where
  idle : E.Idle
  blocks : E.blocks = D.blocks
  calls : E.calls = D.calls + 2 * ws.length + 1
  other : ∀ i : Int, (∀ b ∈ ws, i ≠ (b.1 : Int) ∧ i ≠ ((b.1 + H : Nat) : Int)) → E.read i = D.read i
  mem : ∀ b ∈ ws, Both E H b.1 b.2
theorem flushed_puts {D : Dv} (h : D.Idle) {H : Nat} {ws : List (Nat × List Nat)} (hn : (ws.map (·.1)).Nodup) (hH : ∀ b ∈ ws, b.1 < H) (hb : ∀ b ∈ ws, Crc.Bytes b.2) : Flushed D (puts D H ws).flush H ws := by
  obtain ⟨p1, p2, p3, p4, p5, p6, p7⟩ := puts_same H ws D
  have hfl : ∀ i, (puts D H ws).flush.fl i = if ((puts D H ws).pe i).isSome then (puts D H ws).pe i else D.fl i := fun i => by rw [← p3]; rfl
  have hfi : ∀ i, (puts D H ws).flush.fi i = if ((puts D H ws).pe i).isSome then false else D.fi i := fun i => by rw [← p4]; rfl
  have hid : ((puts D H ws).flush).Idle := by
    refine ⟨by rw [show ((puts D H ws).flush).down = (puts D H ws).down from rfl, p1]; exact h.down, by rw [show ((puts D H ws).flush).fuse = (puts D H ws).fuse from rfl, p2]; exact h.fuse, rfl, fun _ => rfl, fun i l hl => ?_⟩
    rw [hfl] at hl
    split at hl
    · rcases puts_only H i l ws D hl with h' | ⟨b, hb', e, _⟩
      · rw [h.pe] at h'; cases h'
      · rw [← e]; exact hb b hb'
    · exact h.fl i l hl
  refine ⟨hid, p6, by rw [show ((puts D H ws).flush).calls = (puts D H ws).calls + 1 from rfl, p7], fun i hi => ?_, fun b hb' => ?_⟩
  · have e := puts_other H i ws D hi
    rw [hid.read, h.read]
    unfold keptOf
    rw [hfl, hfi, e, h.pe]
    rfl
  · obtain ⟨e1, e2⟩ := puts_mem H ws D hn hH b hb'
    constructor
    · rw [hid.read]
      unfold keptOf
      rw [hfl, hfi, e1]
      rfl
    · rw [hid.read]
      unfold keptOf
      rw [hfl, hfi, e2]
      rfl
theorem writes_fst {S : St} {H : Nat} {x : Lay} {us vs : List Nat} (L : Laid S H x us vs) : (writes S x).map (·.1) = us ++ vs := by
  unfold writes wrP wrT
  rw [List.map_append, List.map_map, List.map_map]
  congr 1
  · refine List.ext_getElem (by simp [L.ul]) fun j h1 h2 => ?_
    have hj : j < x.pg.length := by simpa using h1
    simp only [List.getElem_map, Function.comp, tref, L.new j hj h2, Option.getD_some, Int.toNat_natCast]
  · refine List.ext_getElem (by simp [L.vl]) fun j h1 h2 => ?_
    have hj : j < x.nt.length := by simpa using h1
    simp only [List.getElem_map, Function.comp, L.tnew j hj h2, Int.toNat_natCast]
/-- what a commit writes, and where -/
theorem Fit.writes {H : Nat} {S : St} {V : Int → Option (List Nat)} {R : Nat → List Nat → Prop} {x : Lay} (h : Fit H S V R) (hN : NowOk S.now) (hx : laid S H = some x) :
    ((writes S x).map (·.1)).Nodup ∧ (∀ b ∈ writes S x, b.1 < H ∧ 2 ≤ b.1 ∧ b.1 ∉ used S.tabs S.at_ H ∧ Crc.Bytes b.2 ∧ b.2.length = 256) ∧ (writes S x).length ≤ cnt S.now + 7 := by
  obtain ⟨us, vs, L⟩ := laid_is h.t7 hx
  have hm := writes_fst L
  obtain ⟨r, hr⟩ := L.pre
  have hnd := frees_nodup S.tabs S.at_ H
  rw [hr, ← List.append_assoc] at hnd
  have hlen : (PgP.writes S x).length = x.pg.length + x.nt.length := by unfold PgP.writes wrP wrT; simp
  refine ⟨by rw [hm]; exact (List.nodup_append.1 hnd).1, fun b hb => ?_, ?_⟩
  · have h1 : b.1 ∈ us ++ vs := by rw [← hm]; exact List.mem_map.2 ⟨b, hb, rfl⟩
    have h2 : b.1 ∈ frees S.tabs S.at_ H := by rw [hr, ← List.append_assoc]; exact List.mem_append.2 (.inl h1)
    obtain ⟨f1, f2, f3⟩ := mem_frees.1 h2
    have hnb : ∀ p : Nat, ((S.now (p : Int)).getD []).length ≤ 255 ∧ Crc.Bytes ((S.now (p : Int)).getD []) := fun p => by
      cases hN' : S.now (p : Int) with
      | none => exact ⟨by simp, fun x hx => by cases hx⟩
      | some l =>
        have := hN.len _ _ hN'
        exact ⟨by simp only [Option.getD_some]; omega, this.2⟩
    refine ⟨f1, f2, f3, ?_⟩
    rcases List.mem_append.1 hb with hb | hb
    · obtain ⟨p, _, rfl⟩ := List.mem_map.1 hb
      exact ⟨pblk_bytes (hnb p).1 (hnb p).2, pblk_length (hnb p).1⟩
    · obtain ⟨t, _, rfl⟩ := List.mem_map.1 hb
      exact ⟨tblk_bytes _ _, tblk_length _ _⟩
  · rw [hlen]
    have h1 : x.pg.length ≤ cnt S.now := by rw [L.pg, ← keys_cnt]; exact List.length_filter_le _ _
    have h2 : x.nt.length ≤ 7 := by
      rw [L.nt]
      refine Nat.le_trans (List.length_filter_le _ _) ?_
      unfold touched
      refine Nat.le_trans (List.length_filter_le _ _) ?_
      simp
    omega
theorem sum_pblk {l : List Nat} (h : l.length ≤ 255) (hb : Crc.Bytes l) : Crc.sum (pblk l) < 4294967296 := Crc.sum_lt (pblk_bytes h hb)
theorem Fit.ok {H : Nat} {S : St} {V : Int → Option (List Nat)} {R : Nat → List Nat → Prop} (h : Fit H S V R) (hH : H ≤ 6000) : (∀ i r, S.at_ i = some r → ROk r) ∧ (∀ r ∈ S.tabs, ROk r) ∧ ∀ i, (S.at_ i).isSome = true → 0 ≤ i ∧ i < 256 := by
  refine ⟨fun i r hi => ?_, fun r hr => ?_, fun i hi => ?_⟩
  · obtain ⟨a, l, h1, rfl, h2, h3, _⟩ := h.old_pg hi
    have := h.len i l h1
    exact ⟨by simp only; omega, by simp only; omega, sum_pblk (by omega) this.2.2⟩
  · obtain ⟨t, ht, rfl⟩ := mem_get hr
    have e : S.tabs.getD t (0, 0) = S.tabs[t] := by simp [List.getD, ht]
    have ht7 : t < 7 := by rw [← h.t7]; exact ht
    rw [← e]
    cases hh : PgP.has S.at_ t with
    | false => rw [h.tno t ht7 hh]; exact ⟨by decide, by decide, by decide⟩
    | true =>
      obtain ⟨a, h1, h2, h3, _⟩ := h.tb t ht7 hh
      rw [h1]
      exact ⟨by simp only; omega, by simp only; omega, Crc.sum_lt (tblk_bytes _ _)⟩
  · cases hr : S.at_ i with
    | none => rw [hr] at hi; cases hi
    | some r =>
      obtain ⟨a, l, h1, _⟩ := h.old_pg hr
      exact h.dom i (by rw [h1]; rfl)
/-- a root's block: zeros, or a root -/
abbrev Spot (D : Dv) (s : Nat) : Prop := D.read (s : Int) = some (List.replicate 256 0) ∨ ∃ r, Fine r ∧ D.read (s : Int) = some (enc r)
theorem Spot.same {D E : Dv} {s : Nat} (h : Spot D s) (e : E.read (s : Int) = D.read (s : Int)) : Spot E s := by unfold Spot at *; rw [e]; exact h
/-- a store over a device that stands -/
structure Stand (H : Nat) (S : St) (V : Int → Option (List Nat)) (D : Dv) : Prop where
  fit : Fit H S V (Both D H)
  now : NowOk S.now
  idle : D.Idle
  root : Rooted D H S.ep S.rs
  new : S.ep = 0 → S.rs = []
  fa : ∀ i, D.fa i = false
  sp : ∀ s ∈ spots H, Spot D s
theorem Fit.sok {H : Nat} {S : St} {V : Int → Option (List Nat)} {R : Nat → List Nat → Prop} (h : Fit H S V R) (hN : NowOk S.now) (hH : H ≤ 6000) : SOk S := ⟨h.t7, (Fit.ok h hH).2.2, (Fit.ok h hH).1, (Fit.ok h hH).2.1, hN⟩
theorem Fit.fine {H : Nat} {S : St} {V : Int → Option (List Nat)} {R : Nat → List Nat → Prop} (h : Fit H S V R) (hH : H ≤ 6000) {e : Nat} (h0 : 0 < e) (h1 : e ≤ 1099511627776) : Fine ⟨(e : Int), S.tabs⟩ := by
  have hk := (Fit.ok h hH).2.1
  exact ⟨⟨by show (1 : Int) ≤ (e : Int); omega, by show (e : Int) ≤ _; omega, by show S.tabs.length ≤ 16; rw [h.t7]; omega, fun x hx => ⟨(hk x hx).1, (hk x hx).2.1⟩⟩, fun x hx => (hk x hx).2.2⟩
/-- a root saved over a device that stands -/
theorem Rooted.saved {D : Dv} {H ep : Nat} {rs rs' : List Ref} (h : Rooted D H ep rs) (hD : D.Idle) (hH : 2 ≤ H) (hf : Fine ⟨((ep + 1 : Nat) : Int), rs'⟩) : Rooted (D.saved H (ep + 1) (enc ⟨((ep + 1 : Nat) : Int), rs'⟩)) H (ep + 1) rs' := by
  have hone : ∀ i, oneOf (D.saved H (ep + 1) (enc ⟨((ep + 1 : Nat) : Int), rs'⟩)) i = if i = (((ep + 1) % 2 : Nat) : Int) ∨ i = (((ep + 1) % 2 + H : Nat) : Int) then some ⟨((ep + 1 : Nat) : Int), rs'⟩ else oneOf D i := fun i => by
    unfold oneOf
    rw [Dv.saved_read hD H _ hf.bytes]
    split
    · exact hf.parse
    · rfl
  refine ⟨fun s hs q hq => ?_, fun s hs q hq e => ?_, fun _ => ⟨by rw [hone]; exact if_pos (.inl rfl), by rw [hone]; exact if_pos (.inr rfl)⟩⟩
  · rw [hone] at hq
    split at hq
    · cases hq; exact Int.le_refl _
    · have := h.le s hs q hq; omega
  · rw [hone] at hq
    split at hq
    · cases hq; rfl
    · have := h.le s hs q hq; omega
theorem Rooted.congr {D E : Dv} {H ep : Nat} {rs : List Ref} (h : Rooted D H ep rs) (he : ∀ s ∈ spots H, E.read (s : Int) = D.read (s : Int)) : Rooted E H ep rs := by
  have ho : ∀ s ∈ spots H, oneOf E (s : Int) = oneOf D (s : Int) := fun s hs => by unfold oneOf; rw [he s hs]
  exact ⟨fun s hs q hq => h.le s hs q (by rw [← ho s hs]; exact hq), fun s hs q hq => h.eq s hs q (by rw [← ho s hs]; exact hq), fun h0 => by rw [ho _ (spot_of H ep).1, ho _ (spot_of H ep).2]; exact h.two h0⟩
theorem puts_fa {D : Dv} (h : ∀ i, D.fa i = false) (H : Nat) (ws : List (Nat × List Nat)) : ∀ i, (puts D H ws).flush.fa i = false := fun i => by
  show (if ((puts D H ws).pe i).isSome then false else (puts D H ws).fa i) = false
  split
  · rfl
  · rw [(puts_same H ws D).2.2.2.2.1]; exact h i
theorem saved_fa {D : Dv} (h : ∀ i, D.fa i = false) (H ep : Nat) (b : List Nat) : ∀ i, (D.saved H ep b).fa i = false := fun i => by
  show (if (((D.put _ b).put _ b).pe i).isSome then false else D.fa i) = false
  split
  · rfl
  · exact h i
/-- a commit over a device that stands -/
theorem Stand.commit {H : Nat} {S : St} {V : Int → Option (List Nat)} {D : Dv} {x : Lay} (h : Stand H S V D) (hH : H = GeoW.half D.blocks) (h2 : 2 ≤ H) (hep : S.ep < 1000000) (h0 : cnt S.now ≠ 0) (hx : laid S H = some x) (hf : fits x H = true) :
    ∃ D', commitT S D H = (none, behind S x, D') ∧ Stand H (behind S x) (view S.now V) D' ∧ D'.blocks = D.blocks ∧ D'.calls ≤ D.calls + 2 * (cnt S.now + 7) + 4 := by
  obtain ⟨w1, w2, w3⟩ := Fit.writes h.fit h.now hx
  have hF := flushed_puts h.idle w1 (fun b hb => (w2 b hb).1) (fun b hb => (w2 b hb).2.2.2.1)
  have h512 : H ≤ 512 := by rw [hH]; exact GeoW.half_512 _
  have hbe := h.fit.behind (R' := Both (puts D H (writes S x)).flush H) h.now hx (fun a l ha1 ha2 ha3 hR => ?_) (fun b hb => hF.mem b hb)
  case refine_1 =>
    have hne : ∀ b ∈ writes S x, a ≠ b.1 := fun b hb e => (w2 b hb).2.2.1 (by rw [← e]; exact ha3)
    constructor
    · rw [hF.other _ fun b hb => ⟨fun e => hne b hb (by omega), fun e => by omega⟩]; exact hR.1
    · rw [hF.other _ fun b hb => ⟨fun e => by have := (w2 b hb).1; omega, fun e => hne b hb (by omega)⟩]; exact hR.2
  have hfine := Fit.fine hbe (by omega) (e := S.ep + 1) (by omega) (by omega)
  have hroot : Rooted (puts D H (writes S x)).flush H S.ep S.rs := h.root.congr fun s hs => hF.other _ fun b hb => by
    have h1 := (w2 b hb).2.1
    have h3 := (w2 b hb).1
    rcases spots_mem hs with rfl | rfl | rfl | rfl <;> constructor <;> omega
  refine ⟨(puts D H (writes S x)).flush.saved H (S.ep + 1) (enc ⟨((S.ep + 1 : Nat) : Int), (behind S x).tabs⟩), ?_, ⟨?_, ⟨fun i hi => (by cases hi), fun i l hi => (by cases hi)⟩, Dv.saved_idle hF.idle _ _ hfine.bytes, ?_, fun e => absurd e (Nat.succ_ne_zero _), saved_fa (puts_fa h.fa H (writes S x)) H _ _, fun s hs => ?_⟩, by rw [(Dv.saved_calls _ _ _ _).2, hF.blocks], by rw [(Dv.saved_calls _ _ _ _).1, hF.calls]; omega⟩
  · unfold commitT
    rw [if_neg h0, hx]
    simp only [hf, if_true]
    have e : Dv.commit D H (S.ep + 1) (writes S x) (behind S x).tabs = (none, (puts D H (writes S x)).flush.saved H (S.ep + 1) (enc ⟨((S.ep + 1 : Nat) : Int), (behind S x).tabs⟩)) := by
      unfold Dv.commit
      rw [wall_idle H _ D h.idle.down h.idle.fuse]
      simp only
      obtain ⟨p1, p2, _⟩ := puts_same H (writes S x) D
      have ef : (puts D H (writes S x)).flushT = (none, (puts D H (writes S x)).flush) := by
        unfold DevG.Dv.flushT
        rw [Dv.tick_zero (by rw [p2]; exact h.idle.fuse), p1, h.idle.down, if_neg (by decide)]
      rw [ef]
      simp only
      rw [← hH, Dv.save_idle hF.idle]
    rw [e]
  · have hR : ∀ a l, 2 ≤ a → a < H → Both (puts D H (writes S x)).flush H a l → Both ((puts D H (writes S x)).flush.saved H (S.ep + 1) (enc ⟨((S.ep + 1 : Nat) : Int), (behind S x).tabs⟩)) H a l := fun a l ha1 ha2 hR => by
      constructor
      · rw [Dv.saved_read hF.idle H _ hfine.bytes, if_neg (by omega)]; exact hR.1
      · rw [Dv.saved_read hF.idle H _ hfine.bytes, if_neg (by omega)]; exact hR.2
    refine ⟨hbe.t7, hbe.dom, hbe.len, hbe.off, fun i l hi => ?_, hbe.tno, fun t ht hh => ?_, hbe.inj, hbe.tinj, hbe.pt, hbe.rs, hbe.zero⟩
    · obtain ⟨a, e, a1, a2, a3⟩ := hbe.pg i l hi
      exact ⟨a, e, a1, a2, hR a _ a1 a2 a3⟩
    · obtain ⟨a, e, a1, a2, a3⟩ := hbe.tb t ht hh
      exact ⟨a, e, a1, a2, hR a _ a1 a2 a3⟩
  · exact hroot.saved hF.idle h2 hfine
  · have hsp : Spot (puts D H (writes S x)).flush s := (h.sp s hs).same (hF.other _ fun b hb => by
      have h1 := (w2 b hb).2.1
      have h3 := (w2 b hb).1
      rcases spots_mem hs with rfl | rfl | rfl | rfl <;> constructor <;> omega)
    have hrd := Dv.saved_read hF.idle H (S.ep + 1) hfine.bytes (s : Int)
    by_cases c : (s : Int) = (((S.ep + 1) % 2 : Nat) : Int) ∨ (s : Int) = (((S.ep + 1) % 2 + H : Nat) : Int)
    · rw [if_pos c] at hrd
      exact .inr ⟨_, hfine, hrd⟩
    · rw [if_neg c] at hrd
      exact hsp.same hrd
/-- a new device's store -/
theorem Stand.fresh (b H : Nat) : Stand H ⟨0, [], List.replicate 7 (0, 0), fun _ => none, fun _ => none⟩ (fun _ => none) (Dv.new b) := by
  have hh : ∀ t, PgP.has (fun _ => none) t = false := fun t => by
    unfold PgP.has
    rw [List.any_eq_false]
    intro i _
    simp
  refine ⟨⟨rfl, fun i hi => (by cases hi), fun i l hi => (by cases hi), fun i _ => rfl, fun i l hi => (by cases hi), fun t ht _ => ?_, fun t _ ht => (by rw [hh] at ht; cases ht), fun i j r q hi => (by cases hi), fun t u ht hu e hne => absurd ?_ hne, fun i r t hi => (by cases hi), fun h => absurd h (by simp), fun _ _ => rfl⟩, ⟨fun i hi => (by cases hi), fun i l hi => (by cases hi)⟩, Dv.Idle.new b, Rooted.new b H, fun _ => rfl, fun _ => rfl, fun s _ => .inl (by rw [Dv.new_read])⟩
  · simp only [List.getD_eq_getElem?_getD, List.getElem?_replicate]
    rw [if_pos ht]; rfl
  · simp only [List.getD_eq_getElem?_getD, List.getElem?_replicate]
    rw [if_pos ht]; rfl
/-- the store that is opened of what stands -/
theorem Stand.opened {H : Nat} {S : St} {V : Int → Option (List Nat)} {D : Dv} (h : Stand H S V D) : Stand H { S with now := fun _ => none } V D :=
  ⟨⟨h.fit.t7, h.fit.dom, h.fit.len, h.fit.off, h.fit.pg, h.fit.tno, h.fit.tb, h.fit.inj, h.fit.tinj, h.fit.pt, h.fit.rs, h.fit.zero⟩, ⟨fun i hi => (by cases hi), fun i l hi => (by cases hi)⟩, h.idle, h.root, h.new, h.fa, h.sp⟩
end Go.Proofs.YtbjfgdahfpfgdaaGreatDoor.PgW

namespace Go.Proofs.YtbjfgdahfpfgdaaGreatDoor.PgW
open Go Go.RowKit Go.Maps Go.Proofs.YtbjfgdahfpfgdaaGreatDoor.Mem Go.Proofs.YtbjfgdahfpfgdaaGreatDoor.MapsW Go.Proofs.YtbjfgdahfpfgdaaGreatDoor.SeeW Go.Proofs.YtbjfgdahfpfgdaaGreatDoor.DevG Go.Proofs.YtbjfgdahfpfgdaaGreatDoor.PairG Go.Proofs.YtbjfgdahfpfgdaaGreatDoor.RefsW Go.Proofs.YtbjfgdahfpfgdaaGreatDoor.PgP
set_option linter.unusedVariables false
set_option maxRecDepth 100000

/-- the errors of a store -/
abbrev seven : List Nat := [1, 2, 3, 4, 5, 6, 8]
/-- a page is written: what is told, what the store has then -/
def St.put (S : St) (p : Int) (l : List Nat) : Option Nat × St :=
  if isP p = false then (some 2, S) else if l.length < 1 ∨ 248 < l.length then (some 1, S) else (none, { S with now := upd S.now p (some l) })
def St.drop (S : St) (p : Int) : Option Nat × St :=
  if isP p = false then (some 2, S) else if S.there p then (none, { S with now := upd S.now p (some []) }) else (none, S)
theorem row1 {w : World} {base : Nat} {v : Value} {n : Nat} {l : List Nat} (h : w.ownsRow base 5 1 v n (nums .u8 l)) (hn : 0 < n) : ∃ g cap, v = .slice (some ⟨g, 0, none⟩) n cap ∧ Nums .u8 w (some ⟨g, 0, none⟩) n cap l ∧ base ≤ g := by
  obtain ⟨a, cap, rfl, hr⟩ := ownsRow_slice h
  obtain ⟨g, rfl⟩ := own_some h hn
  exact ⟨g, cap, rfl, hr, (h.lt g rfl).1⟩
theorem isP_fits {p : Int} (h : isP p = true) : 0 ≤ p ∧ p < 256 ∧ Fits p := by
  unfold isP at h
  simp only [Bool.and_eq_true, decide_eq_true_eq] at h
  exact ⟨h.1, h.2, by unfold Fits; omega⟩
set_option maxHeartbeats 1600000 in
theorem write_w (bs : List Addr) (lo n : Nat) (m : Mp) (D : Dv) (I : Si) (S : St) (p : Int) (a : Option Addr) (cap : Nat) (l : List Nat) (w : World) (k : SAt w lo n m D I S) (hB : Ev w lo bs seven) (hf : Fits p) (hl : Nums .u8 w a l.length cap l) (hn : n < 1000000) :
    Calls Tryz.prog 15 #[ptr I.s, .int .i64 p, .slice a l.length cap] w fun e w' => (∃ v, Says bs (St.put S p l).1 v ∧ e = .returned v) ∧ SAt w' lo (n + 1) m D I (St.put S p l).2 ∧ Turn [I.o] w w' := by
  obtain ⟨a2, h2, hA2⟩ := hB.get 2 _ (by decide) rfl
  obtain ⟨a1, h1, hA1⟩ := hB.get 1 _ (by decide) rfl
  obtain ⟨x2, _, _, _⟩ := hA2
  obtain ⟨x1, _, _, _⟩ := hA1
  have hb := hl.bound
  unfold St.put
  cases hp : isP p with
  | false =>
    have hi := is_w p w
    rw [hp] at hi
    have HK := hid (k.mono (n' := n + 1) (by omega))
    clear k hl hB
    go_enter Tryz.func15, Tryz.ntmps15
    go_wp2_with fail
    refine hi.mono ?_
    rintro e w' ⟨rfl, rfl⟩
    go_wp2_with fail
    go_ret
    exact ⟨⟨_, ⟨a2, h2, rfl⟩, rfl⟩, HK.out, Turn.refl _ _⟩
  | true =>
    have hi := is_w p w
    rw [hp] at hi
    by_cases hs : l.length < 1 ∨ 248 < l.length
    · rw [if_neg (by simp), if_pos hs]
      have HK := hid (k.mono (n' := n + 1) (by omega))
      clear k hl hB
      go_enter Tryz.func15, Tryz.ntmps15
      rcases Nat.lt_or_ge l.length 1 with h0 | h0
      · have d1 : decide ((l.length : Int) < 1) = true := decide_eq_true (by omega)
        go_wp2_with fail
        refine hi.mono ?_
        rintro e w' ⟨rfl, rfl⟩
        go_wp2_with fail
        go_ret
        exact ⟨⟨_, ⟨a1, h1, rfl⟩, rfl⟩, HK.out, Turn.refl _ _⟩
      · have d1 : decide ((l.length : Int) < 1) = false := decide_eq_false (by omega)
        have d2 : decide ((248 : Int) < (l.length : Int)) = true := decide_eq_true (by omega)
        go_wp2_with fail
        refine hi.mono ?_
        rintro e w' ⟨rfl, rfl⟩
        go_wp2_with fail
        go_ret
        exact ⟨⟨_, ⟨a1, h1, rfl⟩, rfl⟩, HK.out, Turn.refl _ _⟩
    · rw [if_neg (by simp), if_neg hs]
      have d1 : decide ((l.length : Int) < 1) = false := decide_eq_false (by omega)
      have d2 : decide ((248 : Int) < (l.length : Int)) = false := decide_eq_false (by omega)
      obtain ⟨y, l', rfl⟩ : ∃ y l', l = y :: l' := by
        cases l with
        | nil => exact absurd (.inl (by simp)) hs
        | cons y l' => exact ⟨y, l', rfl⟩
      have hlo := k.own_lo I.s (by simp)
      have hsl := k.slt
      have c6 := k.c.2.2.2.2.2.2.1
      have hq2 : l'.length + 1 ≤ 248 := by
        have : ¬ 248 < (y :: l').length := fun e => hs (.inr e)
        simpa using this
      clear hB hs
      rw [List.length_cons] at hl d1 d2 hb ⊢
      have hst := fun (w : World) (base b n k : Nat) (F : Int → Option (List Nat)) (h : NowMap w base b n F k) (hn : n < 1000000) (g cap : Nat) (hl : Nums .u8 w (some ⟨g, 0, none⟩) (l'.length + 1) cap (y :: l')) (hbg : base ≤ g) => h.store hn hf hl hbg
      obtain ⟨q, hq⟩ : ∃ q, q = l'.length + 1 := ⟨_, rfl⟩
      rw [← hq] at hl d1 d2 hb hq2 ⊢
      simp only [← hq] at hst
      have hq1 : 1 ≤ q := by omega
      clear hq
      go_enter Tryz.func15, Tryz.ntmps15
      go_wp2_with fail
      refine hi.mono ?_
      rintro e w' ⟨rfl, rfl⟩
      go_wp2_with fail
      go_region_held3 (fun w' => w'.cell? ⟨I.s, 6, none⟩ = some (.map (some I.o))) (first | exact c6 | exact z3 | exact z4 | go_keep)
        ((go_at_call 48; refine (RefW.clone_w a q cap (y :: l') _ (Nums.below hl (below_drewN (Below.refl _ _) _)) (by omega)).mono ?_; rintro e w3 ⟨v, rfl, own3, hb3⟩; obtain ⟨g, gc, rfl, hg, hgb⟩ := row1 own3 hq1; have hgb' : w'.heap.size ≤ g := hgb; have k3 := (SAt.below k (below_drewN (Below.refl _ _) 1)).below hb3; obtain ⟨ko, ho⟩ := k3.now; obtain ⟨w4, hrun, hr4, hg4⟩ := hst _ _ _ _ _ _ ho hn _ _ hg (by omega); have z3 := k3.c.2.2.2.2.2.2.1; have k4 := k3.putO hr4 hg4; have z4 := k4.c.2.2.2.2.2.2.1))
      have hT : Turn [I.o] w' w4 := ((Turn.of_below (below_drewN (Below.refl _ w') 1)).then (Turn.of_below hb3)).then (Turn.of_grown hg4 (by simp))
      have H4 := hid k4
      clear k4 k3 ho k hr4 hg4 hrun hg hgb hgb' own3 hb3 hl z3 z4 c6
      go_wp2
      go_ret
      exact ⟨⟨_, rfl, rfl⟩, H4.out, hT⟩
set_option maxHeartbeats 1600000 in
theorem drop_w (bs : List Addr) (lo n : Nat) (m : Mp) (D : Dv) (I : Si) (S : St) (p : Int) (w : World) (k : SAt w lo n m D I S) (hB : Ev w lo bs seven) (hf : Fits p) (hn : n < 1000000) :
    Calls Tryz.prog 26 #[ptr I.s, .int .i64 p] w fun e w' => (∃ v, Says bs (St.drop S p).1 v ∧ e = .returned v) ∧ SAt w' lo (n + 1) m D I (St.drop S p).2 ∧ Turn [I.o] w w' := by
  obtain ⟨a2, h2, hA2⟩ := hB.get 2 _ (by decide) rfl
  obtain ⟨x2, _, _, _⟩ := hA2
  unfold St.drop
  have hi := is_w p w
  cases hp : isP p with
  | false =>
    rw [hp] at hi
    have HK := hid (k.mono (n' := n + 1) (by omega))
    clear k hB
    go_enter Tryz.func26, Tryz.ntmps26
    go_wp2_with fail
    refine hi.mono ?_
    rintro e w' ⟨rfl, rfl⟩
    go_wp2_with fail
    go_ret
    exact ⟨⟨_, ⟨a2, h2, rfl⟩, rfl⟩, HK.out, Turn.refl _ _⟩
  | true =>
    rw [hp] at hi
    have ht := there_w lo n m D I S p w k hf
    cases hT : S.there p with
    | false =>
      rw [hT] at ht
      have HK := hid (k.mono (n' := n + 1) (by omega))
      clear k hB
      go_enter Tryz.func26, Tryz.ntmps26
      go_wp2_with fail
      refine hi.mono ?_
      rintro e w' ⟨rfl, rfl⟩
      go_wp2_with fail
      refine ht.mono ?_
      rintro e w'' ⟨rfl, hww⟩
      subst hww
      go_wp2_with fail
      go_ret
      exact ⟨⟨_, rfl, rfl⟩, HK.out, Turn.refl _ _⟩
    | true =>
      rw [hT] at ht
      obtain ⟨ko, ho⟩ := k.now
      obtain ⟨w4, hrun, hr4, hg4⟩ := ho.storeNil hn hf
      have c6 := k.c.2.2.2.2.2.2.1
      have H4 := hid (k.putO hr4 hg4)
      have T4 : Turn [I.o] w w4 := Turn.of_grown hg4 (by simp)
      have HT := hid T4
      clear k hB ho hr4 hg4 T4
      go_enter Tryz.func26, Tryz.ntmps26
      go_wp2_with fail
      refine hi.mono ?_
      rintro e w' ⟨rfl, hw1⟩
      rw [hw1]
      clear hw1
      go_wp2_with fail
      refine ht.mono ?_
      rintro e w'' ⟨rfl, hww⟩
      rw [hww]
      clear hww
      go_wp2
      go_ret
      exact ⟨⟨_, rfl, rfl⟩, H4.out, HT.out⟩
end Go.Proofs.YtbjfgdahfpfgdaaGreatDoor.PgW

namespace Go.Proofs.YtbjfgdahfpfgdaaGreatDoor.PgW
open Go Go.RowKit Go.Maps Go.Proofs.YtbjfgdahfpfgdaaGreatDoor.Mem Go.Proofs.YtbjfgdahfpfgdaaGreatDoor.MapsW Go.Proofs.YtbjfgdahfpfgdaaGreatDoor.SeeW Go.Proofs.YtbjfgdahfpfgdaaGreatDoor.DevG Go.Proofs.YtbjfgdahfpfgdaaGreatDoor.PairG Go.Proofs.YtbjfgdahfpfgdaaGreatDoor.RefsW Go.Proofs.YtbjfgdahfpfgdaaGreatDoor.PgP
set_option linter.unusedVariables false
set_option maxRecDepth 100000

structure WI (bs : List Addr) (w0 : World) (lo B : Nat) (m : Mp) (I : Si) (S : St) (X tb tc a : Nat) (vn vp vf : Value) (w : World) (n nl : Nat) (D : Dv) (x : Lay) : Prop where
  at_ : SAt w lo n m D I S
  lw : LW w B nl X tb tc a vn vp vf x
  ev : Ev w lo bs seven
  turn : Turn (a :: tb :: own I.d m) w0 w
  cell : w.heap[w0.heap.size]? = some (.cells #[.int .i64 0, .slice none 0 0] 89)
  sep : (∀ y ∈ I.own m, y < B) ∧ I.tb < B ∧ ∀ b o, I.ra = some ⟨b, o, none⟩ → b < B
  loB : lo ≤ B
  out : (∀ b ∈ X :: a :: tb :: (blk vn ++ blk vp), b < w0.heap.size) ∧ B ≤ w0.heap.size
theorem WI.below {bs : List Addr} {w0 : World} {lo B : Nat} {m : Mp} {I : Si} {S : St} {X tb tc a : Nat} {vn vp vf : Value} {w w' : World} {n nl : Nat} {D : Dv} {x : Lay} (h : WI bs w0 lo B m I S X tb tc a vn vp vf w n nl D x) (hb : Below w.heap.size w w') : WI bs w0 lo B m I S X tb tc a vn vp vf w' n nl D x :=
  ⟨h.at_.below hb, h.lw.below hb, h.ev.below (hb.mono (Nat.le_refl _)), h.turn.then (Turn.of_below hb), (hb.block _ (Array.getElem?_eq_some_iff.1 h.cell).1).trans h.cell, h.sep, h.loB, h.out⟩
theorem WI.dsub {bs : List Addr} {w0 : World} {lo B : Nat} {m : Mp} {I : Si} {S : St} {X tb tc a : Nat} {vn vp vf : Value} {w : World} {n nl : Nat} {D : Dv} {x : Lay} (h : WI bs w0 lo B m I S X tb tc a vn vp vf w n nl D x) : ∀ y ∈ own I.d m, y < B ∧ lo ≤ y := fun y hy => ⟨h.sep.1 y (by simp only [List.mem_cons]; exact .inr (.inr (.inr (.inr (List.mem_cons.1 hy))))), h.at_.pr.dev.own_lo y hy⟩
theorem WI.wrote {bs : List Addr} {w0 : World} {lo B : Nat} {m : Mp} {I : Si} {S : St} {X tb tc a : Nat} {vn vp vf : Value} {w w' : World} {n n' nl : Nat} {D D' : Dv} {x : Lay} (h : WI bs w0 lo B m I S X tb tc a vn vp vf w n nl D x) (hp : PR w' lo I.d n' m D' I.p I.H I.c) (ht : Turn (own I.d m) w w') (hn : n ≤ n') : WI bs w0 lo B m I S X tb tc a vn vp vf w' n' nl D' x := by
  have hds := h.dsub
  refine ⟨h.at_.turn hp (ht.mono fun y hy => by simp only [List.mem_cons]; exact .inr (List.mem_cons.1 hy)) hn fun y hy => .inl hy, h.lw.turn ht fun y hy => (hds y hy).1, h.ev.turn ht fun y hy => (hds y hy).2, h.turn.then (ht.mono fun y hy => by simp only [List.mem_cons]; exact .inr (.inr (List.mem_cons.1 hy))), ht.cells h.cell fun hm => ?_, h.sep, h.loB, h.out⟩
  have := (hds _ hm).1
  have := h.out
  omega
theorem WI.setAt {bs : List Addr} {w0 : World} {lo B : Nat} {m : Mp} {I : Si} {S : St} {X tb tc a : Nat} {vn vp vf : Value} {w w' : World} {n nl nl' k' : Nat} {D : Dv} {x : Lay} {F : Int → Option Ref} (h : WI bs w0 lo B m I S X tb tc a vn vp vf w n nl D x) (hr : RefMap w' a nl' F k') (hg : w.grownBy w' (some a)) : WI bs w0 lo B m I S X tb tc a vn vp vf w' n nl' D { x with at_ := F } := by
  obtain ⟨s1, s2, s3⟩ := h.sep
  have hBa := h.lw.b0.2
  have ht : Turn [a] w w' := Turn.of_grown hg (by simp)
  obtain ⟨k1, hk1⟩ := h.lw.at_
  have hno : NoCells w a := nocells hk1.block
  refine ⟨h.at_.away ht (fun y hy => ?_) (fun y hy => .inl (by rw [List.mem_singleton.1 hy]; exact hno)), h.lw.setAt hr hg, h.ev.turn ht (fun y hy => by rw [List.mem_singleton.1 hy]; exact Nat.le_trans h.loB hBa), h.turn.then (ht.mono fun y hy => by rw [List.mem_singleton.1 hy]; simp), ht.cells h.cell (fun hm => by have := List.mem_singleton.1 hm; have := h.out.1 a (by simp); omega), h.sep, h.loB, h.out⟩
  rw [List.mem_singleton.1 hy]
  exact ⟨fun hm => by have := s1 a hm; omega, by omega, fun b o e => by have := s3 b o e; omega⟩
theorem WI.setTab {bs : List Addr} {w0 : World} {lo B : Nat} {m : Mp} {I : Si} {S : St} {X tb tc a : Nat} {vn vp vf : Value} {w : World} {n nl : Nat} {D : Dv} {x : Lay} (h : WI bs w0 lo B m I S X tb tc a vn vp vf w n nl D x) (t : Nat) (r : Ref) :
    WI bs w0 lo B m I S X tb tc a vn vp vf ((w.setCell ⟨tb, t * 2, none⟩ (.int .i64 r.1)).setCell ⟨tb, t * 2 + 1, none⟩ (.int .u32 (r.2 : Int))) n nl D { x with tabs := x.tabs.set t r } := by
  obtain ⟨s1, s2, s3⟩ := h.sep
  have hBa := (own_tab h.lw.tabs).1
  have ht : Turn [tb] w ((w.setCell ⟨tb, t * 2, none⟩ (.int .i64 r.1)).setCell ⟨tb, t * 2 + 1, none⟩ (.int .u32 (r.2 : Int))) := (Turn.setCell w _ _ _ (by simp)).then (Turn.setCell _ _ _ _ (by simp))
  have hT := own_refs h.lw.tabs
  obtain ⟨b', o', e, hc, _⟩ := hT.at (j := 0) (by rw [hT.len]; decide)
  cases e
  refine ⟨h.at_.away ht (fun y hy => ?_) (fun y hy => .inr (by rw [List.mem_singleton.1 hy]; exact ⟨_, hc, fun z e => by cases e⟩)), h.lw.setTab t r, h.ev.turn ht (fun y hy => by rw [List.mem_singleton.1 hy]; exact Nat.le_trans h.loB hBa), h.turn.then (ht.mono fun y hy => by rw [List.mem_singleton.1 hy]; simp), ht.cells h.cell (fun hm => by have := List.mem_singleton.1 hm; have := h.out.1 tb (by simp); omega), h.sep, h.loB, h.out⟩
  rw [List.mem_singleton.1 hy]
  exact ⟨fun hm => by have := s1 tb hm; omega, by omega, fun b o e => by have := s3 b o e; omega⟩
/-- what is written into a new block leaves all -/
theorem WI.far {bs : List Addr} {w0 : World} {lo B : Nat} {m : Mp} {I : Si} {S : St} {X tb tc a : Nat} {vn vp vf : Value} {w w' : World} {n nl : Nat} {D : Dv} {x : Lay} {r : Nat} (h : WI bs w0 lo B m I S X tb tc a vn vp vf w n nl D x) (hr : w0.heap.size < r) (hc : ∃ v, w.cell? ⟨r, 0, none⟩ = some v ∧ ∀ z, v ≠ .int .u8 z) (ht : Turn [r] w w') : WI bs w0 lo B m I S X tb tc a vn vp vf w' n nl D x := by
  obtain ⟨s1, s2, s3⟩ := h.sep
  obtain ⟨o1, o2⟩ := h.out
  have hlB := h.loB
  refine ⟨h.at_.away ht (fun y hy => ?_) (fun y hy => .inr (by rw [List.mem_singleton.1 hy]; exact hc)), h.lw.turn' ht (fun y hy hm => ?_), h.ev.turn ht (fun y hy => by rw [List.mem_singleton.1 hy]; omega), h.turn.trans ht (fun y hy => .inr (by rw [List.mem_singleton.1 hy]; omega)), ht.cells h.cell (fun hm => by have := List.mem_singleton.1 hm; omega), h.sep, h.loB, h.out⟩
  · rw [List.mem_singleton.1 hy]
    exact ⟨fun hm => by have := s1 r hm; omega, by omega, fun b o e => by have := s3 b o e; omega⟩
  · rw [List.mem_singleton.1 hy] at hm
    have := o1 r hm
    omega
theorem WI.fin {bs : List Addr} {w0 : World} {lo B : Nat} {m : Mp} {I : Si} {S : St} {X tb tc a : Nat} {vn vp vf : Value} {w w' : World} {n nl : Nat} {D : Dv} {x : Lay} (h : WI bs w0 lo B m I S X tb tc a vn vp vf w n nl D x) (ht : Turn [w0.heap.size] w w') : SAt w' lo n m D I S ∧ LW w' B nl X tb tc a vn vp vf x ∧ Turn (a :: tb :: own I.d m) w0 w' := by
  obtain ⟨s1, s2, s3⟩ := h.sep
  obtain ⟨o1, o2⟩ := h.out
  refine ⟨h.at_.away ht (fun y hy => ?_) (fun y hy => .inr ?_), h.lw.turn' ht (fun y hy hm => ?_), h.turn.trans ht (fun y hy => .inr (by rw [List.mem_singleton.1 hy]; omega))⟩
  · rw [List.mem_singleton.1 hy]
    exact ⟨fun hm => by have := s1 _ hm; omega, by omega, fun b o e => by have := s3 b o e; omega⟩
  · rw [List.mem_singleton.1 hy]
    exact ⟨.int .i64 0, by simp [World.cell?, h.cell], fun z e => by cases e⟩
  · rw [List.mem_singleton.1 hy] at hm
    have := o1 _ hm
    omega
theorem flushT_in (D : Dv) : D.flushT.2.np ≤ D.np ∧ D.flushT.2.calls ≤ D.calls + 1 ∧ D.flushT.2.blocks = D.blocks ∧ D.flushT.2.fuse ≤ D.fuse ∧ (D.flushT.1 = none → D.flushT.2.np = 0) := by
  have h := D.tick_same
  unfold Dv.flushT
  split
  · exact ⟨by simp [h.2.2.2.2.2.2.1], by simp [h.2.2.2.2.2.2.2.2.1], by simp [h.1], by simp [h.2.2.2.2.2.2.2.2.2], by simp⟩
  · unfold Dv.flush
    exact ⟨by simp, by simp [h.2.2.2.2.2.2.2.2.1], by simp [h.1], by simp [h.2.2.2.2.2.2.2.2.2], by simp⟩
theorem save_blocks (D : Dv) (H ep : Nat) (b : List Nat) : (D.save H ep b).2.blocks = D.blocks := by
  unfold DevG.Dv.save
  have h1 := DevG.Dv.wrote_np D (ep % 2) b
  have h2 := DevG.Dv.wrote_np (DevG.Dv.wrote D (ep % 2) b) (ep % 2 + H) b
  split
  · exact D.tick_same.1
  · split
    · exact (Dv.tick_same _).1.trans h1.2.2.1
    · exact ((flushT_in _).2.2.1.trans h2.2.2.1).trans h1.2.2.1
theorem commit_fail {D D2 : Dv} {H ep q k : Nat} {W V ws : List (Nat × List Nat)} {T : List Ref} (h : wall D H (W.take k) = (some q, D2)) (hw : ws = W ++ V) : Dv.commit D H ep ws T = (some q, D2) := by
  have : wall D H ws = (some q, D2) := by
    rw [hw, ← List.take_append_drop k W, List.append_assoc]
    exact wall_fail h
  unfold Dv.commit
  rw [this]
end Go.Proofs.YtbjfgdahfpfgdaaGreatDoor.PgW

namespace Go.Proofs.YtbjfgdahfpfgdaaGreatDoor.PgW
open Go Go.RowKit Go.Maps Go.Proofs.YtbjfgdahfpfgdaaGreatDoor.Mem Go.Proofs.YtbjfgdahfpfgdaaGreatDoor.MapsW Go.Proofs.YtbjfgdahfpfgdaaGreatDoor.SeeW Go.Proofs.YtbjfgdahfpfgdaaGreatDoor.DevG Go.Proofs.YtbjfgdahfpfgdaaGreatDoor.PairG Go.Proofs.YtbjfgdahfpfgdaaGreatDoor.RefsW Go.Proofs.YtbjfgdahfpfgdaaGreatDoor.PgP Go.Proofs.YtbjfgdahfpfgdaaGreatDoor.RootP Go.Proofs.YtbjfgdahfpfgdaaGreatDoor.RootW
set_option linter.unusedVariables false
set_option maxRecDepth 100000

/-- how many were mended -/
theorem SAt.setZ {w : World} {lo n : Nat} {m : Mp} {D : Dv} {I : Si} {S : St} (k : SAt w lo n m D I S) (z : Int) : SAt (w.setCell ⟨I.s, 7, none⟩ (.int .i64 z)) lo n m D { I with z := z } S := by
  obtain ⟨n1, n2, n3, n4, n5⟩ := k.ne
  obtain ⟨k1, h1⟩ := k.at_
  obtain ⟨k2, h2⟩ := k.now
  have ht : Turn [I.s] w (w.setCell ⟨I.s, 7, none⟩ (.int .i64 z)) := Turn.setCell w I.s 7 _ (by simp)
  have hno : ∀ x ∈ [I.s], NoCells w x ∨ ∃ v, w.cell? ⟨x, 0, none⟩ = some v ∧ ∀ z, v ≠ .int .u8 z := fun x hx => by rw [List.mem_singleton.1 hx]; exact .inr ⟨_, k.c.1, fun z e => by cases e⟩
  have hcl := k.cells
  have htx := k.tx
  refine ⟨k.pr.away ht (fun x hx hm => ?_) hno, by simp [World.setCell, Array.getElem?_modify, hcl], refs_turn k.refs ht fun b o e hm => ?_, refs_turn k.tabs ht fun b o e hm => ?_, ⟨k1, ref_turn h1 ht (by simpa using Ne.symm n2)⟩, ⟨k2, now_turn0 h2 ht (by simpa using Ne.symm n3) hno⟩, k.ao, k.sx, k.ax, k.ox, fun b off e => ⟨Nat.lt_of_lt_of_le (k.rx b off e).1 ht.size, (k.rx b off e).2⟩, k.tx, k.slo⟩
  · rw [List.mem_singleton.1 hx] at hm
    rcases List.mem_cons.1 hm with e | hm
    · exact n1 e
    · exact k.sx hm
  · have h2 := (k.rx b o e).2
    rw [List.mem_singleton.1 hm] at h2
    simp at h2
  · cases e
    rw [List.mem_singleton.1 hm] at htx
    simp at htx
/-- the root is another -/
theorem SAt.setRoot {w : World} {lo n c : Nat} {m : Mp} {D : Dv} {I : Si} {S : St} {a : Option Addr} {T : List Ref} (k : SAt w lo n m D I S) (ep : Nat) (hT : 0 < T.length) (hr : Refs w a T.length c T) (hf : ∀ b o, a = some ⟨b, o, none⟩ → b ∉ I.own m) :
    SAt ((w.setCell ⟨I.s, 2, none⟩ (.int .i64 ep)).setCell ⟨I.s, 3, none⟩ (.slice a T.length c)) lo n m D { I with ra := a, rc := c } { S with ep := ep, rs := T } := by
  obtain ⟨n1, n2, n3, n4, n5⟩ := k.ne
  obtain ⟨k1, h1⟩ := k.at_
  obtain ⟨k2, h2⟩ := k.now
  have ht : Turn [I.s] w ((w.setCell ⟨I.s, 2, none⟩ (.int .i64 ep)).setCell ⟨I.s, 3, none⟩ (.slice a T.length c)) := (Turn.setCell w I.s 2 _ (by simp)).then (Turn.setCell _ I.s 3 _ (by simp))
  have hno : ∀ x ∈ [I.s], NoCells w x ∨ ∃ v, w.cell? ⟨x, 0, none⟩ = some v ∧ ∀ z, v ≠ .int .u8 z := fun x hx => by rw [List.mem_singleton.1 hx]; exact .inr ⟨_, k.c.1, fun z e => by cases e⟩
  have hcl := k.cells
  have htx := k.tx
  refine ⟨k.pr.away ht (fun x hx hm => ?_) hno, by simp [World.setCell, Array.getElem?_modify, hcl], refs_turn hr ht fun b o e hm => ?_, refs_turn k.tabs ht fun b o e hm => ?_, ⟨k1, ref_turn h1 ht (by simpa using Ne.symm n2)⟩, ⟨k2, now_turn0 h2 ht (by simpa using Ne.symm n3) hno⟩, k.ao, k.sx, k.ax, k.ox, fun b off e => ⟨?_, hf b off e⟩, k.tx, k.slo⟩
  · rw [List.mem_singleton.1 hx] at hm
    rcases List.mem_cons.1 hm with e | hm
    · exact n1 e
    · exact k.sx hm
  · have h2 := hf b o e
    rw [List.mem_singleton.1 hm] at h2
    simp at h2
  · cases e
    rw [List.mem_singleton.1 hm] at htx
    simp at htx
  · obtain ⟨b', o', e', hc, _⟩ := hr.at (j := 0) hT
    have e2 : a = some ⟨b, off, none⟩ := e
    rw [e2] at e'
    cases e'
    have := World.block_lt_of_cell? _ _ hc
    simpa using this
def wholeT (D : Dv) (S : St) : Option Nat × Dv := if copies D (GeoW.half D.blocks) S.ep = 2 then (none, D) else D.save (GeoW.half D.blocks) S.ep (enc ⟨S.ep, S.rs⟩)
def WholeTo (bs : List Addr) (w : World) (lo n : Nat) (m : Mp) (I : Si) (S : St) (r : Option Nat × Dv) (e : Ending) (w' : World) : Prop :=
  ∃ v p' z', Says bs r.1 v ∧ e = .returned v ∧ SAt w' lo n { m with p := p' } r.2 { I with z := z' } S ∧ (p' = m.p ∨ w.heap.size ≤ p') ∧ Turn (I.s :: own I.d m) w w' ∧ 0 ≤ z' ∧ z' ≤ I.z + 2
set_option maxHeartbeats 3200000 in
theorem whole_w (bs : List Addr) (lo n : Nat) (m : Mp) (D : Dv) (I : Si) (S : St) (w : World) (k : SAt w lo n m D I S) (hB : Ev w lo bs seven) (hu : D.down = false) (hb1 : 300 ≤ D.blocks) (hbt : ∀ i l, D.read i = some l → Crc.Bytes l)
    (hbest : (bestOf D (GeoW.half D.blocks)).ep = S.ep) (hg : RootP.Good ⟨S.ep, S.rs⟩) (hs : ∀ x ∈ S.rs, x.2 < 4294967296) (hz0 : 0 ≤ I.z ∧ I.z ≤ 1000000) (hn : n < 790000) (hp : D.np < 9000) (hc : D.calls < 800000) (hz : D.fuse ≤ 1000000) :
    Calls Tryz.prog 58 #[ptr I.s] w (WholeTo bs w lo (n + 8 + 3 * D.np) m I S (wholeT D S)) := by
  have hb2 := k.pr.most
  have he1 := hg.e1
  have he2 := hg.e2
  simp only at he1 he2
  have hcp := copies_w bs I.d lo n m D w k.pr.dev (hB.sub (by decide)) hu hb1 hb2 hbt S.ep hbest (by omega) (by omega)
  have hcl := copiesUp_le D (GeoW.half D.blocks) S.ep 2
  unfold wholeT
  rw [show copiesUp D (GeoW.half D.blocks) S.ep 2 = copies D (GeoW.half D.blocks) S.ep from rfl] at hcl
  generalize copies D (GeoW.half D.blocks) S.ep = q at *
  have HK := hid k
  have HB := hid hB
  have c0 := k.c.1
  clear k hB hbest
  by_cases h2 : q = 2
  · subst h2
    rw [if_pos rfl]
    go_enter Tryz.func58, Tryz.ntmps58
    go_wp2_with fail
    refine hcp.mono ?_
    rintro e w1 ⟨rfl, b1⟩
    have HB1 := hid b1
    clear b1 hcp
    go_wp2_with fail
    go_ret
    exact ⟨_, m.p, I.z, rfl, rfl, (HK.out.below HB1.out).mono (by omega), .inl rfl, Turn.of_below HB1.out, hz0.1, by omega⟩
  · rw [if_neg h2]
    have h2i : decide ((q : Int) = 2) = false := decide_eq_false (by omega)
    have h2b : ((q : Int) == 2) = false := by rw [Bool.eq_false_iff]; intro h; have := eq_of_beq h; omega
    go_enter Tryz.func58, Tryz.ntmps58
    go_wp2_with fail
    refine hcp.mono ?_
    rintro e w1 ⟨rfl, b1⟩
    have k1 := HK.out.below b1
    obtain ⟨e0, e1, e2, e3, e4, e5, e6, e7, ez⟩ := k1.c
    have ez7 := ez 7
    have HB1 := hid b1
    have HK1 := hid k1
    have f1 : IntKind.i64.wrap (2 - (q : Int)) = 2 - (q : Int) := by rw [IntKind.wrap_i64]; omega
    have f2 : IntKind.i64.wrap (I.z + (2 - (q : Int))) = I.z + (2 - (q : Int)) := by rw [IntKind.wrap_i64]; omega
    clear b1 k1 ez hcp e1 e4 e5 e6
    go_upto_region 5 with fail
    have k2 := HK1.out.setZ (I.z + (2 - (q : Int)))
    have t2 : Turn [I.s] w1 (w1.setCell ⟨I.s, 7, none⟩ (.int .i64 (I.z + (2 - (q : Int))))) := Turn.setCell w1 I.s 7 _ (by simp)
    generalize w1.setCell ⟨I.s, 7, none⟩ (.int .i64 (I.z + (2 - (q : Int)))) = w2 at *
    have B2 := (HB.out.below HB1.out).turn t2 (fun y hy => by rw [List.mem_singleton.1 hy]; exact HK.out.slo.1)
    have hz1 := HB1.out.size
    have hsz := t2.size
    have hsv : ∀ w', Below w2.heap.size w2 w' → Calls Tryz.prog 92 #[ptr I.d, Rv (S.ep : Int) I.ra S.rs.length I.rc] w' (WholeTo bs w lo (n + 8 + 3 * D.np) m I S (D.save (GeoW.half D.blocks) S.ep (enc ⟨S.ep, S.rs⟩))) := by
      intro w' hb'
      have k3 := k2.below hb'
      have hz3 := hb'.size
      refine (save_w bs I.d lo n m D S.ep S.rs I.ra I.rc w' k3.pr.dev ((B2.below hb').sub (by decide)) hb1 hb2 k3.refs hg hs (by omega) (by omega) (by omega) hz).mono ?_
      rintro e w4 ⟨⟨v, hv, rfl⟩, p', hp', h4, t4⟩
      have pr4 : PR w4 lo I.d (n + 8 + 3 * D.np) { m with p := p' } (D.save (GeoW.half D.blocks) S.ep (enc ⟨S.ep, S.rs⟩)).2 I.p I.H I.c := k3.pr.turn h4 t4 (save_blocks _ _ _ _)
      refine ⟨v, p', I.z + (2 - (q : Int)), hv, rfl, k3.turn pr4 (t4.mono fun y hy => by simp only [List.mem_cons]; exact .inr (List.mem_cons.1 hy)) (by omega) (fun y hy => ?_), hp'.imp id (fun h => by omega), (((Turn.of_below HB1.out).then (t2.mono fun y hy => by rw [List.mem_singleton.1 hy]; simp)).then (Turn.of_below hb')).then (t4.mono fun y hy => by simp only [List.mem_cons]; exact .inr (List.mem_cons.1 hy)), by omega, by omega⟩
      simp only [own, Mp.list, List.mem_cons, List.not_mem_nil, or_false] at hy ⊢
      rcases hp' with e | e
      · subst e; exact .inl hy
      · rcases hy with hy | hy | hy | hy | hy | hy
        · exact .inl (by simp [hy])
        · exact .inl (by simp [hy])
        · exact .inr (by omega)
        · exact .inl (by simp [hy])
        · exact .inl (by simp [hy])
        · exact .inl (by simp [hy])
    obtain ⟨s0, s1, s2, s3, _⟩ := k2.c
    clear k2 t2 B2 e0 e2 e3 e7 ez7
    go_region_held3 (fun w' => w'.cell? ⟨I.s, 0, none⟩ = some (ptr I.d) ∧ w'.cell? ⟨I.s, 2, none⟩ = some (.int .i64 S.ep) ∧ w'.cell? ⟨I.s, 3, none⟩ = some (.slice I.ra S.rs.length I.rc)) (first | exact ⟨s0, s2, s3⟩ | exact p4 | go_keep)
      (first | (go_at_call 92; refine (hsv _ (by first | exact Below.drew (Below.refl _ _) | exact below_drewN (Below.refl _ _) _)).mono ?_; rintro e w4 ⟨v, p', z', hv, rfl, k4, hp', t4, hz4⟩; have p4 : w4.cell? ⟨I.s, 0, none⟩ = some (ptr I.d) ∧ w4.cell? ⟨I.s, 2, none⟩ = some (.int .i64 S.ep) ∧ w4.cell? ⟨I.s, 3, none⟩ = some (.slice I.ra S.rs.length I.rc) := ⟨k4.c.1, k4.c.2.2.1, k4.c.2.2.2.1⟩))
    have H4 := hid (show WholeTo bs w lo (n + 8 + 3 * D.np) m I S (D.save (GeoW.half D.blocks) S.ep (enc ⟨S.ep, S.rs⟩)) (.returned v) w4 from ⟨v, p', z', hv, rfl, k4, hp', t4, hz4⟩)
    clear k4 p4 hp' t4 hz4 hsv hv
    go_wp2_with fail
    go_ret
    exact H4.out
end Go.Proofs.YtbjfgdahfpfgdaaGreatDoor.PgW
