/- Plain facts: two roots saved one behind the other. -/
import Derived.Test.YtlljpljfmaaejaaDoorRootDev
import Derived.Test.YtlljpljfmaaejaaDoorGDevMore
namespace Go.Proofs.YtlljpljfmaaejaaDoor.DevG
open Go Go.RowKit Go.Maps Go.Proofs.YtlljpljfmaaejaaDoor.Mem Go.Proofs.YtlljpljfmaaejaaDoor.MapsW
set_option linter.unusedVariables false

theorem Dv.raw_at (D : Dv) (i : Int) (l : List Nat) (j : Int) : (D.raw i l).fl j = (if j = i then some l else D.fl j) ∧ (D.raw i l).fi j = (if j = i then false else D.fi j) ∧ (D.raw i l).pe j = (if j = i then none else D.pe j) := by
  have e : ∀ {α : Type} (F : Int → α) (x : α), upd F i x j = if j = i then x else F j := fun F x => by
    by_cases h : j = i
    · subst h; rw [if_pos rfl, upd_same]
    · rw [if_neg h, upd_other _ _ h]
  exact ⟨e _ _, e _ _, e _ _⟩
theorem Dv.raw_idle {D : Dv} (h : D.Idle) (i : Int) {l : List Nat} (hl : Crc.Bytes l) : (D.raw i l).Idle := by
  refine ⟨h.down, h.fuse, ?_, fun j => ?_, fun j q hq => ?_⟩
  · show (if (D.pe i).isSome then D.np - 1 else D.np) = 0
    rw [h.pe]; exact h.np
  · rw [(D.raw_at i l j).2.2, h.pe]; split <;> rfl
  · rw [(D.raw_at i l j).1] at hq
    split at hq
    · cases hq; exact hl
    · exact h.fl j q hq
theorem Dv.raw_read {D : Dv} (h : D.Idle) (i : Int) {l : List Nat} (hl : Crc.Bytes l) (j : Int) : (D.raw i l).read j = if j = i then some l else D.read j := by
  rw [(Dv.raw_idle h i hl).read, h.read]
  unfold keptOf
  rw [(D.raw_at i l j).1, (D.raw_at i l j).2.1]
  split <;> rfl
end Go.Proofs.YtlljpljfmaaejaaDoor.DevG
namespace Go.Proofs.YtlljpljfmaaejaaDoor.RootW
open Go Go.RowKit Go.Maps Go.Proofs.YtlljpljfmaaejaaDoor.Mem Go.Proofs.YtlljpljfmaaejaaDoor.MapsW Go.Proofs.YtlljpljfmaaejaaDoor.RootP Go.Proofs.YtlljpljfmaaejaaDoor.DevG
set_option linter.unusedVariables false

/-- a root that may be, with its sums -/
structure Fine (r : Rt) : Prop where
  g : RootP.Good r
  s : ∀ x ∈ r.rs, x.2 < 4294967296
theorem Fine.parse {r : Rt} (h : Fine r) : parse (enc r) = some r := parse_enc h.g h.s
theorem Fine.bytes {r : Rt} (h : Fine r) : Crc.Bytes (enc r) := enc_bytes h.g.n
theorem Fine.ep {r : Rt} (h : Fine r) : 0 < r.ep ∧ ((r.ep.toNat : Nat) : Int) = r.ep ∧ 0 < r.ep.toNat ∧ r.ep.toNat ≤ 1099511627776 := by
  have h1 := h.g.e1
  have h2 := h.g.e2
  omega
/-- r saved, then q, in the other two blocks -/
def two (D : Dv) (H : Nat) (r q : Rt) : Dv := (D.saved H r.ep.toNat (enc r)).saved H q.ep.toNat (enc q)
theorem two_idle {D : Dv} (h : D.Idle) (H : Nat) {r q : Rt} (hr : Fine r) (hq : Fine q) : (two D H r q).Idle := Dv.saved_idle (Dv.saved_idle h H _ hr.bytes) H _ hq.bytes
theorem two_read {D : Dv} (h : D.Idle) (H : Nat) {r q : Rt} (hr : Fine r) (hq : Fine q) (i : Int) :
    (two D H r q).read i = if i = ((q.ep.toNat % 2 : Nat) : Int) ∨ i = ((q.ep.toNat % 2 + H : Nat) : Int) then some (enc q) else if i = ((r.ep.toNat % 2 : Nat) : Int) ∨ i = ((r.ep.toNat % 2 + H : Nat) : Int) then some (enc r) else D.read i := by
  unfold two
  rw [Dv.saved_read (Dv.saved_idle h H _ hr.bytes) H _ hq.bytes, Dv.saved_read h H _ hr.bytes]
theorem one_of {D : Dv} {i : Int} {r : Rt} (hr : Fine r) (h : D.read i = some (enc r)) : oneOf D i = some r := by
  unfold oneOf
  rw [h]
  exact hr.parse
theorem spots_mem {H s : Nat} (h : s ∈ spots H) : s = 0 ∨ s = H ∨ s = 1 ∨ s = 1 + H := by simpa [spots] using h
/-- what is found where each of the four blocks reads as one of two roots -/
theorem best_two {D : Dv} {H : Nat} {r q : Rt} (hr : 0 < r.ep) (hlt : q.ep < r.ep) (h1 : ∃ s ∈ spots H, oneOf D (s : Int) = some r) (h2 : ∀ s ∈ spots H, ∀ x, oneOf D (s : Int) = some x → x = r ∨ x = q) : bestOf D H = r :=
  best_of hr h1 fun s hs x hx => (h2 s hs x hx).imp id fun e => by rw [e]; exact hlt
theorem spot_of (H ep : Nat) : ep % 2 ∈ spots H ∧ ep % 2 + H ∈ spots H := by
  rcases Nat.mod_two_eq_zero_or_one ep with h | h <;> rw [h] <;> simp [spots]
theorem copies_two {D : Dv} {H : Nat} {r : Rt} (hr : Fine r) (h0 : oneOf D ((r.ep.toNat % 2 : Nat) : Int) = some r) (h1 : oneOf D ((r.ep.toNat % 2 + H : Nat) : Int) = some r) : copies D H r.ep.toNat = 2 := by
  have e : ∀ i : Nat, oneOf D (i : Int) = some r → hasEp D r.ep.toNat i = true := fun i hi => by
    unfold hasEp
    rw [hi]
    exact decide_eq_true hr.ep.2.1.symm
  unfold copies copiesUp
  simp only [pair, List.take_succ_cons, List.take_zero, List.countP_cons, List.countP_nil, e _ h0, e _ h1, if_true]
end Go.Proofs.YtlljpljfmaaejaaDoor.RootW
