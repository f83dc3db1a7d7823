/- Plain facts: a save of a root whose flush found the power gone, one copy kept. -/
import Derived.Test.YtlljpljfmaaejaaDoorRootTwo
import Derived.Test.YtlljpljfmaaejaaDoorDevKeep
import Derived.Test.YtlljpljfmaaejaaDoorPickOdd
namespace Go.Proofs.YtlljpljfmaaejaaDoor.RootW
open Go Go.RowKit Go.Maps Go.Proofs.YtlljpljfmaaejaaDoor.Mem Go.Proofs.YtlljpljfmaaejaaDoor.MapsW Go.Proofs.YtlljpljfmaaejaaDoor.RootP Go.Proofs.YtlljpljfmaaejaaDoor.DevG Go.Proofs.YtlljpljfmaaejaaDoor.DevL
set_option linter.unusedVariables false
set_option maxRecDepth 100000

/-- a device on which nothing but elder roots, of the other places, are -/
structure Elder (D : Dv) (H n : Nat) : Prop where
  idle : D.Idle
  old : ∀ s ∈ spots H, ∀ q, oneOf D (s : Int) = some q → q.ep < (n : Int)
  none0 : oneOf D ((n % 2 : Nat) : Int) = none
  none1 : oneOf D ((n % 2 + H : Nat) : Int) = none
theorem Elder.new (b H n : Nat) : Elder (Dv.new b) H n := by
  have h : ∀ i, oneOf (Dv.new b) i = none := fun i => by unfold oneOf; rw [Dv.new_read]; exact parse_zeros
  exact ⟨Dv.Idle.new b, fun s _ q hq => (by rw [h] at hq; cases hq), h _, h _⟩
theorem saved_one {D : Dv} (h : D.Idle) (H : Nat) {r : Rt} (hr : Fine r) (i : Int) :
    oneOf (D.saved H r.ep.toNat (enc r)) i = if i = ((r.ep.toNat % 2 : Nat) : Int) ∨ i = ((r.ep.toNat % 2 + H : Nat) : Int) then some r else oneOf D i := by
  unfold oneOf
  rw [Dv.saved_read h H _ hr.bytes]
  split
  · exact hr.parse
  · rfl
/-- behind a root saved on a new device -/
theorem Elder.one (b H n : Nat) (hH : 2 ≤ H) {r : Rt} (hr : Fine r) (hn : r.ep = (n : Int)) : Elder ((Dv.new b).saved H n (enc r)) H (n + 1) := by
  have e : r.ep.toNat = n := by rw [hn]; exact Int.toNat_natCast n
  have h : ∀ i, oneOf (Dv.new b) i = none := fun i => by unfold oneOf; rw [Dv.new_read]; exact parse_zeros
  have hs := saved_one (Dv.Idle.new b) H hr
  rw [e] at hs
  refine ⟨Dv.saved_idle (Dv.Idle.new b) H n hr.bytes, fun s _ q hq => ?_, ?_, ?_⟩
  · rw [hs, h] at hq
    split at hq
    · cases hq; rw [hn]; omega
    · cases hq
  · rw [hs, if_neg (by omega), h]
  · rw [hs, if_neg (by omega), h]
/-- the save: both written, the flush finds the power gone -/
def cut (D : Dv) (H n : Nat) (b : List Nat) : Dv := { ((D.put ((n % 2 : Nat) : Int) b).put ((n % 2 + H : Nat) : Int) b) with fuse := 0, down := true }
theorem save_cut {D : Dv} (h : D.Idle) (H n : Nat) (b : List Nat) : ({ D with fuse := 3 } : Dv).save H n b = (some 5, cut D H n b) := by
  have e1 : ({ D with fuse := 3 } : Dv).tick = { D with fuse := 2, down := false } := Dv.tick_some h.down (by show 0 < 3; decide)
  have e2 : ({ D with fuse := 3 } : Dv).wrote (n % 2) b = { D.put ((n % 2 : Nat) : Int) b with fuse := 2, down := false } := by unfold Dv.wrote; rw [e1]; rfl
  have e3 : ({ D.put ((n % 2 : Nat) : Int) b with fuse := 2, down := false } : Dv).tick = { D.put ((n % 2 : Nat) : Int) b with fuse := 1, down := false } := Dv.tick_some rfl (by show 0 < 2; decide)
  have e4 : ({ D.put ((n % 2 : Nat) : Int) b with fuse := 2, down := false } : Dv).wrote (n % 2 + H) b = { (D.put ((n % 2 : Nat) : Int) b).put ((n % 2 + H : Nat) : Int) b with fuse := 1, down := false } := by unfold Dv.wrote; rw [e3]; rfl
  have e5 : ({ (D.put ((n % 2 : Nat) : Int) b).put ((n % 2 + H : Nat) : Int) b with fuse := 1, down := false } : Dv).tick = cut D H n b := Dv.tick_some rfl (by show 0 < 1; decide)
  unfold Dv.save Dv.flushT
  rw [e1, e2, e3, e4, e5]
  rfl
theorem cut_keys {D : Dv} (h : D.Idle) {H n : Nat} (hH : 0 < H) {b : List Nat} {ks : List Int} (hK : Keys (cut D H n b).pe ks) : ks = [((n % 2 : Nat) : Int), ((n % 2 + H : Nat) : Int)] := by
  refine rising_same hK.rise ?_ fun i => ?_
  · simp; omega
  · rw [hK.mem i, show (cut D H n b).pe i = _ from Dv.saved_pe h H n b i]
    simp only [List.mem_cons, List.not_mem_nil, or_false]
    split
    · rename_i c; exact ⟨fun _ => c, fun _ => rfl⟩
    · rename_i c; simp only [Option.isSome_none, Bool.false_eq_true, false_iff]; exact c
/-- the picks: the one copy, or the other -/
def picks (second : Bool) : List Int := if second then [0, 1] else [1, 0]
theorem sel_picks (a b : Int) (hab : a ≠ b) (second : Bool) (i : Int) : sel [a, b] (picks second) i = decide (i = if second then b else a) := by
  have p0 : pick (picks second) 0 = !second := by
    cases second
    · show (bits .and .i64 1 1 == 1) = true
      rw [pick_odd]; rfl
    · show (bits .and .i64 0 1 == 1) = false
      rw [pick_odd]; rfl
  have p1 : pick (picks second) 1 = second := by
    cases second
    · show (bits .and .i64 0 1 == 1) = false
      rw [pick_odd]; rfl
    · show (bits .and .i64 1 1 == 1) = true
      rw [pick_odd]; rfl
  have : sel [a, b] (picks second) i = ((pick (picks second) 0 && decide (a = i)) || ((pick (picks second) 1 && decide (b = i)) || false)) := rfl
  rw [this, p0, p1]
  cases second
  · simp [eq_comm]
  · simp [eq_comm]
/-- .. what there is then -/
abbrev fell (D : Dv) (H n : Nat) (b : List Nat) (second : Bool) (ks : List Int) : Dv := (cut D H n b).crash ks (picks second)
abbrev keptAt (H n : Nat) (second : Bool) : Int := if second then ((n % 2 + H : Nat) : Int) else ((n % 2 : Nat) : Int)
structure Fell (D E : Dv) (c : Int) (b : List Nat) : Prop where
  idle : E.Idle
  read : ∀ i, E.read i = if i = c then some b else D.read i
  blocks : E.blocks = D.blocks
  calls : E.calls = D.calls + 2
theorem fell_is {D : Dv} (h : D.Idle) {H n : Nat} (hH : 0 < H) {b : List Nat} (hb : Crc.Bytes b) (second : Bool) {ks : List Int} (hK : Keys (cut D H n b).pe ks) : Fell D (fell D H n b second ks) (keptAt H n second) b := by
  obtain rfl := cut_keys h hH hK
  have hs : ∀ i, sel [((n % 2 : Nat) : Int), ((n % 2 + H : Nat) : Int)] (picks second) i = decide (i = keptAt H n second) := fun i => sel_picks _ _ (by omega) second i
  have hpe : (cut D H n b).pe (keptAt H n second) = some b := by
    rw [show (cut D H n b).pe (keptAt H n second) = _ from Dv.saved_pe h H n b _, if_pos]
    cases second
    · exact .inl rfl
    · exact .inr rfl
  have hfl : ∀ i, (fell D H n b second [((n % 2 : Nat) : Int), ((n % 2 + H : Nat) : Int)]).fl i = if i = keptAt H n second then some b else D.fl i := fun i => by
    show (if sel _ (picks second) i then (cut D H n b).pe i else D.fl i) = _
    rw [hs]
    by_cases c : i = keptAt H n second
    · rw [decide_eq_true c, if_pos rfl, if_pos c, c, hpe]
    · rw [decide_eq_false c, if_neg (by decide), if_neg c]
  have hfi : ∀ i, (fell D H n b second [((n % 2 : Nat) : Int), ((n % 2 + H : Nat) : Int)]).fi i = if i = keptAt H n second then false else D.fi i := fun i => by
    show (if sel _ (picks second) i then false else D.fi i) = _
    rw [hs]
    by_cases c : i = keptAt H n second
    · rw [decide_eq_true c, if_pos rfl, if_pos c]
    · rw [decide_eq_false c, if_neg (by decide), if_neg c]
  have hid : (fell D H n b second [((n % 2 : Nat) : Int), ((n % 2 + H : Nat) : Int)]).Idle := ⟨rfl, rfl, rfl, fun _ => rfl, fun i l hl => by
    rw [hfl] at hl
    split at hl
    · cases hl; exact hb
    · exact h.fl i l hl⟩
  refine ⟨hid, fun i => ?_, rfl, rfl⟩
  rw [hid.read, h.read]
  unfold keptOf
  rw [hfl, hfi]
  split <;> rfl
theorem Fell.one {D E : Dv} {c : Int} {r : Rt} (h : Fell D E c (enc r)) (hr : Fine r) (i : Int) : oneOf E i = if i = c then some r else oneOf D i := by
  unfold oneOf
  rw [h.read]
  split
  · exact hr.parse
  · rfl
theorem Fell.best {D E : Dv} {H n : Nat} {second : Bool} {r : Rt} (h : Fell D E (keptAt H n second) (enc r)) (hr : Fine r) (hn : r.ep = (n : Int)) (hD : Elder D H n) : bestOf E H = r := by
  have hp : 0 < r.ep := hr.ep.1
  refine best_of hp ?_ fun s hs q hq => ?_
  · have h1 := spot_of H n
    cases second
    · exact ⟨n % 2, h1.1, by rw [h.one hr]; exact if_pos rfl⟩
    · exact ⟨n % 2 + H, h1.2, by rw [h.one hr]; exact if_pos rfl⟩
  · rw [h.one hr] at hq
    split at hq
    · cases hq; exact .inl rfl
    · rw [hn]; exact .inr (hD.old s hs q hq)
theorem Fell.copies {D E : Dv} {H n : Nat} (hH : 0 < H) {second : Bool} {r : Rt} (h : Fell D E (keptAt H n second) (enc r)) (hr : Fine r) (hn : r.ep = (n : Int)) (hD : Elder D H n) : copies E H n = 1 := by
  have e1 : ∀ i : Nat, (i : Int) = keptAt H n second → hasEp E n i = true := fun i hi => by
    unfold hasEp
    rw [h.one hr, if_pos hi]
    exact decide_eq_true hn
  have e0 : ∀ i : Nat, (i : Int) ≠ keptAt H n second → oneOf D (i : Int) = none → hasEp E n i = false := fun i hi ho => by
    unfold hasEp
    rw [h.one hr, if_neg hi, ho]
  unfold RootW.copies copiesUp
  simp only [pair, List.take_succ_cons, List.take_zero, List.countP_cons, List.countP_nil]
  cases second
  · rw [e1 (n % 2) rfl, e0 (n % 2 + H) (by show ((n % 2 + H : Nat) : Int) ≠ ((n % 2 : Nat) : Int); omega) hD.none1]; rfl
  · rw [e0 (n % 2) (by show ((n % 2 : Nat) : Int) ≠ ((n % 2 + H : Nat) : Int); omega) hD.none0, e1 (n % 2 + H) rfl]; rfl
/-- saved again -/
theorem Fell.again {D E : Dv} {H n : Nat} {second : Bool} {r : Rt} (h : Fell D E (keptAt H n second) (enc r)) (hr : Fine r) (hn : r.ep = (n : Int)) (hD : Elder D H n) :
    (E.saved H n (enc r)).Idle ∧ bestOf (E.saved H n (enc r)) H = r ∧ RootW.copies (E.saved H n (enc r)) H n = 2 := by
  have e : r.ep.toNat = n := by rw [hn]; exact Int.toNat_natCast n
  have hs := saved_one h.idle H hr
  rw [e] at hs
  have hc : RootW.copies (E.saved H n (enc r)) H r.ep.toNat = 2 := copies_two hr (by rw [e, hs]; exact if_pos (.inl rfl)) (by rw [e, hs]; exact if_pos (.inr rfl))
  rw [e] at hc
  refine ⟨Dv.saved_idle h.idle H n hr.bytes, best_of hr.ep.1 ⟨n % 2, (spot_of H n).1, by rw [hs]; exact if_pos (.inl rfl)⟩ fun s hs' q hq => ?_, hc⟩
  rw [hs] at hq
  split at hq
  · cases hq; exact .inl rfl
  · rw [h.one hr] at hq
    split at hq
    · cases hq; exact .inl rfl
    · rw [hn]; exact .inr (hD.old s hs' q hq)
end Go.Proofs.YtlljpljfmaaejaaDoor.RootW
