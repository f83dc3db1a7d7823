/- Plain facts: roots of which copies were faulted. -/
import Derived.Test.YtjecnjgngahmfaaDoorRootTwo
import Derived.Test.YtjecnjgngahmfaaDoorRootMade
import Derived.Test.YtjecnjgngahmfaaDoorPairPlain
namespace Go.Proofs.YtjecnjgngahmfaaDoor.DevG
open Go Go.RowKit Go.Maps Go.Proofs.YtjecnjgngahmfaaDoor.Mem Go.Proofs.YtjecnjgngahmfaaDoor.MapsW
set_option linter.unusedVariables false

theorem upd_is {α : Type} (F : Int → α) (i : Int) (x : α) (j : Int) : upd F i x j = if j = i then x else F j := by
  by_cases h : j = i
  · subst h; rw [if_pos rfl, upd_same]
  · rw [if_neg h, upd_other _ _ h]
/-- a word with a bit laid on -/
theorem or_u32 (a : Int) (k : Nat) (hk : 0 < k) (hk2 : k < 4294967296) : ∃ t : Nat, bits .or .u32 a (k : Int) = (t : Int) ∧ t ≠ 0 ∧ t < 4294967296 := by
  have e : (BitVec.ofInt 32 (k : Int)).toNat = k := by
    rw [BitVec.toNat_ofInt]; omega
  have hlt := (BitVec.ofInt 32 a ||| BitVec.ofInt 32 (k : Int)).isLt
  refine ⟨(BitVec.ofInt 32 a ||| BitVec.ofInt 32 (k : Int)).toNat, ?_, ?_, by omega⟩
  · show IntKind.u32.wrap ((BitVec.ofInt 32 a ||| BitVec.ofInt 32 (k : Int)).toNat : Int) = _
    generalize (BitVec.ofInt 32 a ||| BitVec.ofInt 32 (k : Int)).toNat = x at hlt ⊢
    rw [IntKind.wrap_u32]
    omega
  · rw [BitVec.toNat_or, e]
    have := Nat.right_le_or (n := (BitVec.ofInt 32 a).toNat) (m := k)
    omega
/-- a fault: what it leaves -/
structure Faulted (D D' : Dv) (i : Int) (x : Option (List Nat)) : Prop where
  idle : D'.Idle
  blocks : D'.blocks = D.blocks
  read : ∀ j, D'.read j = if j = i then x else D.read j
  may : ∀ j, j ≠ i → D'.may j = D.may j
theorem Dv.fail_is {D : Dv} (h : D.Idle) {i : Int} (hi : D.may i = true) : Faulted D (D.fail i) i none := by
  have e : D.fail i = { D with fi := upd D.fi i true }.fault i := by unfold Dv.fail; rw [hi]; rfl
  rw [e]
  have hd : ({ D with fi := upd D.fi i true }.fault i).Idle := ⟨h.down, h.fuse, h.np, h.pe, h.fl⟩
  refine ⟨hd, rfl, fun j => ?_, fun j hj => ?_⟩
  · rw [hd.read, h.read]
    show (if upd D.fi i true j then none else some (keptOf D j)) = _
    rw [upd_is]
    by_cases c : j = i
    · rw [if_pos c, if_pos c]; rfl
    · rw [if_neg c, if_neg c]
  · unfold Dv.may
    show (decide (0 ≤ j ∧ j < (D.blocks : Int)) && (!(D.pe j).isSome && !(upd D.fa i true j))) = _
    rw [upd_is, if_neg hj]
theorem Dv.spoil_is {D : Dv} (h : D.Idle) {i : Int} (hi : D.may i = true) {l : List Nat} (hl : D.read i = some l) {p : Int} (hp : 0 ≤ p ∧ p ≤ 252) {t : Nat} (ht : t ≠ 0) : Faulted D (D.spoil i p t) i (some (Crc.turned l p t)) := by
  rw [spoil_yes (show D.mayS i p t = true by unfold Dv.mayS; rw [hi, decide_eq_true ⟨hp.1, hp.2, ht⟩]; rfl)]
  rw [h.read] at hl
  have hfi : D.fi i = false := by
    cases hf : D.fi i with
    | false => rfl
    | true => rw [hf] at hl; cases hl
  rw [hfi] at hl
  have hk : keptOf D i = l := Option.some.inj hl
  rw [hk]
  have hlb : Crc.Bytes l := hk ▸ h.kept i
  have hd : ({ D with fl := upd D.fl i (some (Crc.turned l p t)) }.fault i).Idle := by
    refine ⟨h.down, h.fuse, h.np, h.pe, fun j q hq => ?_⟩
    change upd D.fl i (some (Crc.turned l p t)) j = some q at hq
    rw [upd_is] at hq
    split at hq
    · cases hq; exact Crc.turned_bytes hlb p t
    · exact h.fl j q hq
  refine ⟨hd, rfl, fun j => ?_, fun j hj => ?_⟩
  · rw [hd.read, h.read]
    unfold keptOf
    show (if D.fi j then none else some ((upd D.fl i (some (Crc.turned l p t)) j).getD _)) = _
    rw [upd_is]
    by_cases c : j = i
    · rw [if_pos c, if_pos c, c, hfi]; rfl
    · rw [if_neg c, if_neg c]
  · unfold Dv.may
    show (decide (0 ≤ j ∧ j < (D.blocks : Int)) && (!(D.pe j).isSome && !(upd D.fa i true j))) = _
    rw [upd_is, if_neg hj]
end Go.Proofs.YtjecnjgngahmfaaDoor.DevG
namespace Go.Proofs.YtjecnjgngahmfaaDoor.RootW
open Go Go.RowKit Go.Maps Go.Proofs.YtjecnjgngahmfaaDoor.Mem Go.Proofs.YtjecnjgngahmfaaDoor.MapsW Go.Proofs.YtjecnjgngahmfaaDoor.RootP Go.Proofs.YtjecnjgngahmfaaDoor.DevG
set_option linter.unusedVariables false

theorem one_eq {D : Dv} {i : Int} {l : List Nat} (h : D.read i = some l) : oneOf D i = parse l := by unfold oneOf; rw [h, Option.bind_some]
theorem one_turned {D : Dv} {i : Int} {r : Rt} (hr : Fine r) {p : Nat} (hp : p ≤ 252) {t : Nat} (h0 : t ≠ 0) (ht : t < 4294967296) (h : D.read i = some (Crc.turned (enc r) (p : Int) t)) : oneOf D i = none := by
  rw [one_eq h]
  have hne : Crc.turned (enc r) (p : Int) t ≠ enc r := Crc.turned_ne (by rw [enc_length]; omega) h0 ht
  exact parse_turned hr.g hr.s _ t hne
theorem one_fail {D : Dv} {i : Int} (h : D.read i = none) : oneOf D i = none := by
  unfold oneOf; rw [h]; rfl
/-- the roots of RootFaults -/
def rt (i : Nat) : Rt := madeR i [(i : Int), 5]
theorem rt_fine {i : Nat} (h0 : 0 < i) (h : i ≤ 6000) : Fine (rt i) := by
  refine ⟨⟨?_, ?_, ?_, ?_⟩, ?_⟩
  · show (1 : Int) ≤ (i : Int); omega
  · show (i : Int) ≤ 1099511627776; omega
  · show 2 ≤ 16; decide
  · intro x hx
    obtain ⟨z, hz, rfl⟩ := List.mem_map.1 hx
    show 0 ≤ z ∧ z ≤ 6000
    simp only [List.mem_cons, List.not_mem_nil, or_false] at hz
    omega
  · intro x hx
    obtain ⟨z, hz, rfl⟩ := List.mem_map.1 hx
    exact sumOf_lt z
theorem rt_ep (i : Nat) : (rt i).ep = i ∧ (rt i).ep.toNat = i := ⟨rfl, Int.toNat_natCast i⟩
/-- what a device tells: which root, how many copies -/
structure Tells (F : Dv) (W C : Nat) : Prop where
  idle : F.Idle
  blocks : F.blocks = 400
  best : bestOf F 100 = rt W
  cop : copies F 100 W = C
theorem copies_is {D : Dv} {H ep : Nat} {x y : Bool} (h0 : hasEp D ep (ep % 2) = x) (h1 : hasEp D ep (ep % 2 + H) = y) : copies D H ep = x.toNat + y.toNat := by
  unfold copies copiesUp
  simp only [pair, List.take_succ_cons, List.take_zero, List.countP_cons, List.countP_nil, h0, h1]
  cases x <;> cases y <;> rfl
theorem has_none {D : Dv} {ep i : Nat} (h : oneOf D (i : Int) = none) : hasEp D ep i = false := by unfold hasEp; rw [h]
theorem has_some {D : Dv} {ep i k : Nat} (h : oneOf D (i : Int) = some (rt k)) : hasEp D ep i = decide (k = ep) := by
  unfold hasEp; rw [h]
  rw [Bool.eq_iff_iff, decide_eq_true_eq, decide_eq_true_eq]
  show ((k : Int) = (ep : Int)) ↔ _
  omega
/-- n - 1 saves and one more: the device -/
structure Full (E : Dv) (k : Nat) : Prop where
  idle : E.Idle
  blocks : E.blocks = 400
  new : ∀ s ∈ [(k + 2) % 2, (k + 2) % 2 + 100], E.read (s : Int) = some (enc (rt (k + 2)))
  old : ∀ s ∈ [(k + 1) % 2, (k + 1) % 2 + 100], E.read (s : Int) = some (enc (rt (k + 1)))
  may : ∀ s ∈ spots 100, E.may (s : Int) = true
theorem full {D : Dv} (h : D.Idle) (hb : D.blocks = 400) {k : Nat} (hk : k ≤ 1000) : Full (two D 100 (rt (k + 1)) (rt (k + 2))) k := by
  have h1 := rt_fine (i := k + 1) (by omega) (by omega)
  have h2 := rt_fine (i := k + 2) (by omega) (by omega)
  have e1 := (rt_ep (k + 1)).2
  have e2 := (rt_ep (k + 2)).2
  refine ⟨two_idle h 100 h1 h2, hb, fun s hs => ?_, fun s hs => ?_, fun s hs => ?_⟩
  · rw [two_read h 100 h1 h2, e1, e2]
    simp only [List.mem_cons, List.not_mem_nil, or_false] at hs
    rw [if_pos (by omega)]
  · rw [two_read h 100 h1 h2, e1, e2]
    simp only [List.mem_cons, List.not_mem_nil, or_false] at hs
    rw [if_neg (by omega), if_pos (by omega)]
  · have hm := spots_mem hs
    have i2 := two_idle h 100 h1 h2
    have hfa : (two D 100 (rt (k + 1)) (rt (k + 2))).fa (s : Int) = false := by
      unfold two
      rw [(Dv.saved_at (Dv.saved_idle h 100 _ h1.bytes) 100 _ _ _).2.2, (Dv.saved_at h 100 _ _ _).2.2, e1, e2]
      by_cases c : (s : Int) = (((k + 2) % 2 : Nat) : Int) ∨ (s : Int) = (((k + 2) % 2 + 100 : Nat) : Int)
      · rw [if_pos c]
      · rw [if_neg c, if_pos (by omega)]
    unfold Dv.may
    rw [hfa, i2.pe, decide_eq_true (show 0 ≤ (s : Int) ∧ (s : Int) < ((two D 100 (rt (k + 1)) (rt (k + 2))).blocks : Int) by
      rw [show (two D 100 (rt (k + 1)) (rt (k + 2))).blocks = 400 from hb]; omega)]
    rfl

/-- each of the four blocks has the new root, the old one, or none -/
theorem tells_new {F : Dv} {k C : Nat} (hk : k ≤ 1000) (hi : F.Idle) (hb : F.blocks = 400) (h : ∀ s ∈ spots 100, oneOf F (s : Int) = some (rt (k + 2)) ∨ oneOf F (s : Int) = some (rt (k + 1)) ∨ oneOf F (s : Int) = none)
    {x y : Bool} (h0 : oneOf F (((k + 2) % 2 : Nat) : Int) = if x then some (rt (k + 2)) else none) (h1 : oneOf F (((k + 2) % 2 + 100 : Nat) : Int) = if y then some (rt (k + 2)) else none) (hx : x = true ∨ y = true) (hC : C = x.toNat + y.toNat) : Tells F (k + 2) C := by
  have f2 := rt_fine (i := k + 2) (by omega) (by omega)
  refine ⟨hi, hb, best_of f2.ep.1 ?_ ?_, ?_⟩
  · rcases hx with rfl | rfl
    · exact ⟨_, (spot_of 100 (k + 2)).1, h0⟩
    · exact ⟨_, (spot_of 100 (k + 2)).2, h1⟩
  · intro s hs q hq
    rcases h s hs with e | e | e <;> rw [e] at hq <;> cases hq
    · exact .inl rfl
    · exact .inr (show ((k + 1 : Nat) : Int) < ((k + 2 : Nat) : Int) by omega)
  · rw [hC]
    refine copies_is ?_ ?_
    · cases x with
      | true => rw [has_some h0]; simp
      | false => rw [has_none h0]
    · cases y with
      | true => rw [has_some h1]; simp
      | false => rw [has_none h1]
theorem tells_old {F : Dv} {k : Nat} (hk : k ≤ 1000) (hi : F.Idle) (hb : F.blocks = 400) (h : ∀ s ∈ spots 100, oneOf F (s : Int) = some (rt (k + 1)) ∨ oneOf F (s : Int) = none)
    (h0 : oneOf F (((k + 1) % 2 : Nat) : Int) = some (rt (k + 1))) (h1 : oneOf F (((k + 1) % 2 + 100 : Nat) : Int) = some (rt (k + 1))) : Tells F (k + 1) 2 := by
  have f1 := rt_fine (i := k + 1) (by omega) (by omega)
  refine ⟨hi, hb, best_of f1.ep.1 ⟨_, (spot_of 100 (k + 1)).1, h0⟩ ?_, ?_⟩
  · intro s hs q hq
    rcases h s hs with e | e <;> rw [e] at hq <;> cases hq
    exact .inl rfl
  · refine (copies_is (x := true) (y := true) ?_ ?_)
    · rw [has_some h0]; simp
    · rw [has_some h1]; simp
theorem Full.one {E : Dv} {k : Nat} (h : Full E k) (hk : k ≤ 1000) : ∀ s ∈ spots 100, oneOf E (s : Int) = if s % 100 = (k + 2) % 2 then some (rt (k + 2)) else some (rt (k + 1)) := by
  intro s hs
  have hm := spots_mem hs
  by_cases c : s % 100 = (k + 2) % 2
  · rw [if_pos c]
    exact one_of (rt_fine (by omega) (by omega)) (h.new s (by simp only [List.mem_cons, List.not_mem_nil, or_false]; omega))
  · rw [if_neg c]
    exact one_of (rt_fine (by omega) (by omega)) (h.old s (by simp only [List.mem_cons, List.not_mem_nil, or_false]; omega))
theorem one_read {D D' : Dv} {i : Int} (h : D'.read i = D.read i) : oneOf D' i = oneOf D i := by unfold oneOf; rw [h]
theorem spoil_one {D : Dv} (h : D.Idle) {i : Int} (hm : D.may i = true) {r : Rt} (hr : Fine r) (hrd : D.read i = some (enc r)) {p : Int} (hp : 0 ≤ p ∧ p ≤ 252) {t : Nat} (h0 : t ≠ 0) (ht : t < 4294967296) :
    Faulted D (D.spoil i p t) i (some (Crc.turned (enc r) p t)) ∧ ∀ j, oneOf (D.spoil i p t) j = if j = i then none else oneOf D j := by
  have f := Dv.spoil_is h hm hrd hp h0
  refine ⟨f, fun j => ?_⟩
  obtain ⟨q, rfl⟩ := Int.eq_ofNat_of_zero_le hp.1
  by_cases c : j = i
  · subst c
    rw [if_pos rfl]
    exact one_turned (p := q) hr (by omega) h0 ht (by rw [f.read, if_pos rfl])
  · rw [if_neg c]
    exact one_read (by rw [f.read, if_neg c])
theorem fail_one {D : Dv} (h : D.Idle) {i : Int} (hm : D.may i = true) : Faulted D (D.fail i) i none ∧ ∀ j, oneOf (D.fail i) j = if j = i then none else oneOf D j := by
  have f := Dv.fail_is h hm
  refine ⟨f, fun j => ?_⟩
  by_cases c : j = i
  · subst c
    rw [if_pos rfl]
    exact one_fail (by rw [f.read, if_pos rfl])
  · rw [if_neg c]
    exact one_read (by rw [f.read, if_neg c])
theorem spot_in {s : Nat} (h : s < 2) : s ∈ spots 100 ∧ s + 100 ∈ spots 100 := by
  have : s = 0 ∨ s = 1 := by omega
  rcases this with rfl | rfl <;> decide
/-- where the new root's copies lie: slot and slot + 100; the old one's: the others -/
theorem tells0 {E : Dv} {k : Nat} (h : Full E k) (hk : k ≤ 1000) {s : Nat} (hs : s = (k + 2) % 2) {p : Int} (hp : 0 ≤ p ∧ p ≤ 252) {t : Nat} (h0 : t ≠ 0) (ht : t < 4294967296) : Tells (E.spoil (s : Int) p t) (k + 2) 1 := by
  obtain ⟨f, o⟩ := spoil_one h.idle (h.may s (spot_in (by omega)).1) (rt_fine (i := k + 2) (by omega) (by omega)) (h.new s (by subst hs; simp)) hp h0 ht
  refine tells_new (x := false) (y := true) hk f.idle (f.blocks.trans h.blocks) (fun q hq => ?_) ?_ ?_ (.inr rfl) rfl
  · rw [o, h.one hk q hq]
    split
    · exact .inr (.inr rfl)
    · split
      · exact .inl rfl
      · exact .inr (.inl rfl)
  · rw [← hs, o, if_pos rfl]; rfl
  · rw [← hs, o, if_neg (by omega), h.one hk _ (spot_in (by omega)).2, if_pos (by omega)]; rfl
theorem tells1 {E : Dv} {k : Nat} (h : Full E k) (hk : k ≤ 1000) {s : Nat} (hs : s = (k + 2) % 2) : Tells (E.fail ((s + 100 : Nat) : Int)) (k + 2) 1 := by
  obtain ⟨f, o⟩ := fail_one h.idle (h.may (s + 100) (spot_in (by omega)).2)
  refine tells_new (x := true) (y := false) hk f.idle (f.blocks.trans h.blocks) (fun q hq => ?_) ?_ ?_ (.inl rfl) rfl
  · rw [o, h.one hk q hq]
    split
    · exact .inr (.inr rfl)
    · split
      · exact .inl rfl
      · exact .inr (.inl rfl)
  · rw [← hs, o, if_neg (by omega), h.one hk _ (spot_in (by omega)).1, if_pos (by omega)]; rfl
  · rw [← hs, o, if_pos rfl]; rfl
theorem tells2 {E : Dv} {k : Nat} (h : Full E k) (hk : k ≤ 1000) {s : Nat} (hs : s = (k + 2) % 2) {p : Int} (hp : 0 ≤ p ∧ p ≤ 252) {t : Nat} (h0 : t ≠ 0) (ht : t < 4294967296) : Tells ((E.spoil (s : Int) p t).fail ((1 - s : Nat) : Int)) (k + 2) 1 := by
  obtain ⟨f, o⟩ := spoil_one h.idle (h.may s (spot_in (by omega)).1) (rt_fine (i := k + 2) (by omega) (by omega)) (h.new s (by subst hs; simp)) hp h0 ht
  obtain ⟨f2, o2⟩ := fail_one f.idle (i := ((1 - s : Nat) : Int)) (by rw [f.may _ (by omega)]; exact h.may (1 - s) (spot_in (by omega)).1)
  refine tells_new (x := false) (y := true) hk f2.idle (f2.blocks.trans (f.blocks.trans h.blocks)) (fun q hq => ?_) ?_ ?_ (.inr rfl) rfl
  · rw [o2, o, h.one hk q hq]
    split
    · exact .inr (.inr rfl)
    split
    · exact .inr (.inr rfl)
    · split
      · exact .inl rfl
      · exact .inr (.inl rfl)
  · rw [← hs, o2, if_neg (by omega), o, if_pos rfl]; rfl
  · rw [← hs, o2, if_neg (by omega), o, if_neg (by omega), h.one hk _ (spot_in (by omega)).2, if_pos (by omega)]; rfl
theorem tells3 {E : Dv} {k : Nat} (h : Full E k) (hk : k ≤ 1000) {s : Nat} (hs : s = (k + 2) % 2) {p : Int} (hp : 0 ≤ p ∧ p ≤ 252) {t : Nat} (h0 : t ≠ 0) (ht : t < 4294967296) : Tells ((E.fail ((1 - s : Nat) : Int)).spoil ((101 - s : Nat) : Int) p t) (k + 2) 2 := by
  obtain ⟨f, o⟩ := fail_one h.idle (h.may (1 - s) (spot_in (by omega)).1)
  have e : 101 - s = 1 - s + 100 := by omega
  obtain ⟨f2, o2⟩ := spoil_one f.idle (i := ((101 - s : Nat) : Int)) (by rw [f.may _ (by omega)]; exact h.may _ (e ▸ (spot_in (by omega)).2)) (rt_fine (i := k + 1) (by omega) (by omega))
    (by rw [f.read, if_neg (by omega)]; exact h.old (101 - s) (by simp only [List.mem_cons, List.not_mem_nil, or_false]; omega)) hp h0 ht
  refine tells_new (x := true) (y := true) hk f2.idle (f2.blocks.trans (f.blocks.trans h.blocks)) (fun q hq => ?_) ?_ ?_ (.inr rfl) rfl
  · rw [o2, o, h.one hk q hq]
    split
    · exact .inr (.inr rfl)
    split
    · exact .inr (.inr rfl)
    · split
      · exact .inl rfl
      · exact .inr (.inl rfl)
  · rw [← hs, o2, if_neg (by omega), o, if_neg (by omega), h.one hk _ (spot_in (by omega)).1, if_pos (by omega)]; rfl
  · rw [← hs, o2, if_neg (by omega), o, if_neg (by omega), h.one hk _ (spot_in (by omega)).2, if_pos (by omega)]; rfl
theorem tells4 {E : Dv} {k : Nat} (h : Full E k) (hk : k ≤ 1000) {s : Nat} (hs : s = (k + 2) % 2) {p p' : Int} (hp : 0 ≤ p ∧ p ≤ 252) (hp' : 0 ≤ p' ∧ p' ≤ 252) {t : Nat} (h0 : t ≠ 0) (ht : t < 4294967296) : Tells ((E.spoil (s : Int) p t).spoil ((s + 100 : Nat) : Int) p' t) (k + 1) 2 := by
  obtain ⟨f, o⟩ := spoil_one h.idle (h.may s (spot_in (by omega)).1) (rt_fine (i := k + 2) (by omega) (by omega)) (h.new s (by subst hs; simp)) hp h0 ht
  obtain ⟨f2, o2⟩ := spoil_one f.idle (i := ((s + 100 : Nat) : Int)) (by rw [f.may _ (by omega)]; exact h.may _ (spot_in (by omega)).2) (rt_fine (i := k + 2) (by omega) (by omega))
    (by rw [f.read, if_neg (by omega)]; exact h.new (s + 100) (by simp only [List.mem_cons, List.not_mem_nil, or_false]; omega)) hp' h0 ht
  refine tells_old hk f2.idle (f2.blocks.trans (f.blocks.trans h.blocks)) (fun q hq => ?_) ?_ ?_
  · have hm := spots_mem hq
    rw [o2, o, h.one hk q hq]
    split
    · exact .inr rfl
    split
    · exact .inr rfl
    · rw [if_neg (by omega)]
      exact .inl rfl
  · rw [o2, if_neg (by omega), o, if_neg (by omega), h.one hk _ (spot_in (by omega)).1, if_neg (by omega)]
  · rw [o2, if_neg (by omega), o, if_neg (by omega), h.one hk _ (spot_in (by omega)).2, if_neg (by omega)]
/-- the device behind i saves -/
def sv : Nat → Dv
  | 0 => Dv.new 400
  | i + 1 => (sv i).saved 100 (i + 1) (enc (rt (i + 1)))
theorem sv_is : ∀ i, i ≤ 1000 → (sv i).Idle ∧ (sv i).blocks = 400 ∧ (sv i).calls = 3 * i
  | 0, _ => ⟨Dv.Idle.new 400, rfl, rfl⟩
  | i + 1, h => by
    obtain ⟨a, b, c⟩ := sv_is i (by omega)
    refine ⟨Dv.saved_idle a 100 _ (rt_fine (by omega) (by omega)).bytes, b, ?_⟩
    show (sv i).calls + 3 = _
    omega
theorem sv_full {k : Nat} (h : k ≤ 900) : Full (sv (k + 2)) k := full (sv_is k (by omega)).1 (sv_is k (by omega)).2.1 (by omega)
end Go.Proofs.YtjecnjgngahmfaaDoor.RootW
