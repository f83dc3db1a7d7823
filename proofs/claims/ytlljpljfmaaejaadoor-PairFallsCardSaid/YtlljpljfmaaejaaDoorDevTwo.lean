/- Two devices, each apart from the other. -/
import Derived.Test.YtlljpljfmaaejaaDoorDevArm
import Derived.Test.YtlljpljfmaaejaaDoorDevKeep
import Derived.Test.YtlljpljfmaaejaaDoorGDevClone
namespace Go.Proofs.YtlljpljfmaaejaaDoor.DevG
open Go Go.RowKit Go.Maps Go.Proofs.YtlljpljfmaaejaaDoor.Mem Go.Proofs.YtlljpljfmaaejaaDoor.MapsW
set_option linter.unusedVariables false
set_option maxRecDepth 100000

/-- a device's own blocks hold no rows -/
theorem At.soft {w : World} {lo d n : Nat} {m : Mp} {D : Dv} (h : At w lo d n m D) : ∀ x ∈ own d m, NoCells w x ∨ ∃ v, w.cell? ⟨x, 0, none⟩ = some v ∧ ∀ z, v ≠ .int .u8 z := by
  intro x hx
  rcases List.mem_cons.1 hx with rfl | hx
  · exact .inr ⟨_, h.c.1, fun z e => by cases e⟩
  · exact .inl (nocells (h.maps x hx))
/-- what is done to a device leaves another one -/
theorem At.aside {w w' : World} {lo d n : Nat} {m : Mp} {D : Dv} {lo' d' n' : Nat} {m' : Mp} {D' : Dv} (hx : At w lo' d' n' m' D') (h : At w lo d n m D) (ht : Turn (own d m) w w') (hap : ∀ y ∈ own d' m', y ∉ own d m) : At w' lo' d' n' m' D' :=
  hx.turn ht (hap _ List.mem_cons_self) (fun y hy => hap y (List.mem_cons_of_mem _ hy)) h.soft
/-- another map of what is pending, made since -/
theorem apart_p {d d' p : Nat} {m m' : Mp} (hap : ∀ y ∈ own d' m', y ∉ own d m) (hlt : ∀ y ∈ own d' m', y < p) : ∀ y ∈ own d' m', y ∉ own d { m with p := p } := by
  intro y hy hm
  have h1 := hap y hy
  have h2 := hlt y hy
  simp only [own, Mp.list, List.mem_cons, List.not_mem_nil, or_false] at hm h1
  omega
theorem apart_flip {d d' : Nat} {m m' : Mp} (hap : ∀ y ∈ own d' m', y ∉ own d m) : ∀ y ∈ own d m, y ∉ own d' m' := fun y hy hm => hap y hm hy
end Go.Proofs.YtlljpljfmaaejaaDoor.DevG
namespace Go.Proofs.YtlljpljfmaaejaaDoor.DevL
open Go Go.RowKit Go.Maps Go.Proofs.YtlljpljfmaaejaaDoor.Mem Go.Proofs.YtlljpljfmaaejaaDoor.MapsW Go.Proofs.YtlljpljfmaaejaaDoor.DevG
/-- a device of 8 blocks, up, one block ever faulted -/
structure Eight (k : Nat) (D : Dv) : Prop where
  blocks : D.blocks = 8
  fuse : D.fuse = 0
  down : D.down = false
  np : D.np ≤ k
  ne : D.ne = 1
  calls : D.calls ≤ 2 * k
theorem Eight.put {k : Nat} {D : Dv} (h : Eight k D) (i : Int) (l : List Nat) : Eight (k + 1) (D.put i l) :=
  ⟨h.blocks, h.fuse, h.down, by have := put_np_le D i l; have := h.np; omega, h.ne, by show D.calls + 1 ≤ _; have := h.calls; omega⟩
theorem Eight.putFlush {k : Nat} {D : Dv} (h : Eight k D) (i : Int) (l : List Nat) : Eight (k + 1) (D.put i l).flush :=
  ⟨h.blocks, h.fuse, h.down, Nat.zero_le _, h.ne, by show D.calls + 1 + 1 ≤ _; have := h.calls; omega⟩
theorem Eight.start (k : Nat) (hk : k < 8) : Eight 0 ((Dv.new 8).fail (k : Int)) := by
  have hm : (Dv.new 8).may (k : Int) = true := by
    unfold Dv.may
    rw [decide_eq_true (show 0 ≤ (k : Int) ∧ (k : Int) < (((Dv.new 8).blocks : Nat) : Int) by show 0 ≤ (k : Int) ∧ (k : Int) < ((8 : Nat) : Int); omega)]; rfl
  have e : (Dv.new 8).fail (k : Int) = { Dv.new 8 with fi := upd (Dv.new 8).fi (k : Int) true }.fault (k : Int) := by unfold Dv.fail; rw [hm]; rfl
  rw [e]
  exact ⟨rfl, rfl, rfl, Nat.le_refl _, rfl, Nat.le_refl _⟩
/-- what is read of it -/
theorem Eight.get {D : Dv} (hb : D.blocks = 8) (hd : D.down = false) (i : Nat) (hi : i < 8) : (∃ l, D.get (i : Int) = .ok l) ∨ D.get (i : Int) = .error 6 := by
  have hr : 0 ≤ (i : Int) ∧ (i : Int) < (D.blocks : Int) := by rw [hb]; omega
  cases h : D.read (i : Int) with
  | some l => exact .inl ⟨l, get_some hd hr h⟩
  | none => exact .inr (get_none hd hr h)
theorem keys_same {F : Int → Option (List Nat)} {ks ks' : List Int} (h : Keys F ks) (h' : Keys F ks') : ks = ks' :=
  rising_same h.rise h'.rise fun i => (h.mem i).trans (h'.mem i).symm
end Go.Proofs.YtlljpljfmaaejaaDoor.DevL
