/- A device of which some writes are pending behind a flush and a fault. -/
import Derived.Test.YtlljpljfmaaejaaDoorDevWhole
namespace Go.Proofs.YtlljpljfmaaejaaDoor.DevL
open Go Go.RowKit Go.Maps Go.Proofs.YtlljpljfmaaejaaDoor.Mem Go.Proofs.YtlljpljfmaaejaaDoor.MapsW Go.Proofs.YtlljpljfmaaejaaDoor.SeeW Go.Proofs.YtlljpljfmaaejaaDoor.DevG
set_option linter.unusedVariables false
set_option maxRecDepth 100000

/-- block 0 flushed, block 3 failed, k blocks pending -/
def kp (a b : List Nat) (k : Nat) : Dv where
  blocks := 8
  fl := fun i => if i = 0 then some a else none
  pe := fun i => if 0 ≤ i ∧ i < (k : Int) then some b else none
  fa := fun i => decide (i = 3)
  fi := fun i => decide (i = 3)
  ev := fun i => decide (i = 3)
  np := k
  ne := 1
  calls := k + 2
theorem kp_start (a b : List Nat) : ((Dv.new 8).put ((0 : Nat) : Int) a).flush.fail 3 = kp a b 0 := by
  refine Dv.same rfl ?_ ?_ ?_ ?_ ?_ rfl rfl rfl rfl rfl
  · funext i
    show (if (upd (fun _ => none) ((0 : Nat) : Int) (some a) i).isSome then upd (fun _ => none) ((0 : Nat) : Int) (some a) i else none) = if i = 0 then some a else none
    unfold upd
    by_cases h : i = 0
    · subst h; rfl
    · rw [if_neg (show ¬ i = ((0 : Nat) : Int) from h), if_neg h]; rfl
  · funext i
    show none = if 0 ≤ i ∧ i < ((0 : Nat) : Int) then some b else none
    rw [if_neg (by omega)]
  all_goals
    funext i
    show upd _ 3 true i = decide (i = 3)
    unfold upd
    by_cases h : i = 3
    · rw [if_pos h, decide_eq_true h]
    · rw [if_neg h, decide_eq_false h]
      first | rfl | (show (if (upd (fun _ => none) ((0 : Nat) : Int) (some a) i).isSome then false else false) = false; split <;> rfl)
theorem kp_next (a b : List Nat) (k : Nat) : (kp a b k).put (k : Int) b = kp a b (k + 1) := by
  refine Dv.same rfl rfl ?_ rfl rfl rfl ?_ rfl rfl rfl rfl
  · funext i
    show upd (fun i => if 0 ≤ i ∧ i < (k : Int) then some b else none) (k : Int) (some b) i = if 0 ≤ i ∧ i < ((k + 1 : Nat) : Int) then some b else none
    unfold upd
    by_cases h : i = (k : Int)
    · rw [if_pos h, if_pos (by omega)]
    · rw [if_neg h]
      show (if 0 ≤ i ∧ i < (k : Int) then some b else none) = _
      by_cases h2 : 0 ≤ i ∧ i < (k : Int)
      · rw [if_pos h2, if_pos (by omega)]
      · rw [if_neg h2, if_neg (by omega)]
  · show (if ((if 0 ≤ (k : Int) ∧ (k : Int) < (k : Int) then some b else none : Option (List Nat))).isSome then k else k + 1) = k + 1
    rw [if_neg (show ¬ (0 ≤ (k : Int) ∧ (k : Int) < (k : Int)) by omega)]
    rfl
/-- two rising lists of the same numbers are the same -/
theorem rising_same {l m : List Int} (hl : l.Pairwise (· < ·)) (hm : m.Pairwise (· < ·)) (h : ∀ i, i ∈ l ↔ i ∈ m) : l = m := by
  induction l generalizing m with
  | nil =>
    cases m with
    | nil => rfl
    | cons y m => exact absurd ((h y).2 List.mem_cons_self) (by simp)
  | cons x l ih =>
    cases m with
    | nil => exact absurd ((h x).1 List.mem_cons_self) (by simp)
    | cons y m =>
      have hx := List.pairwise_cons.1 hl
      have hy := List.pairwise_cons.1 hm
      have e : x = y := by
        rcases List.mem_cons.1 ((h x).1 List.mem_cons_self) with e | h1
        · exact e
        · rcases List.mem_cons.1 ((h y).2 List.mem_cons_self) with e | h2
          · exact e.symm
          · have := hx.1 y h2; have := hy.1 x h1; omega
      subst e
      rw [ih hx.2 hy.2 fun i => ⟨fun hi => ?_, fun hi => ?_⟩]
      · rcases List.mem_cons.1 ((h i).1 (List.mem_cons_of_mem _ hi)) with e | h1
        · have := hx.1 i hi; omega
        · exact h1
      · rcases List.mem_cons.1 ((h i).2 (List.mem_cons_of_mem _ hi)) with e | h1
        · have := hy.1 i hi; omega
        · exact h1
theorem kp_keys {a b : List Nat} {k : Nat} {ks : List Int} (h : Keys (kp a b k).pe ks) : ks = (List.range k).map fun j : Nat => (j : Int) := by
  refine rising_same h.rise ?_ fun i => ?_
  · rw [List.pairwise_map]
    exact List.pairwise_lt_range.imp fun h => by omega
  · rw [h.mem i]
    show ((if 0 ≤ i ∧ i < (k : Int) then some b else none : Option (List Nat))).isSome = true ↔ _
    rw [List.mem_map]
    constructor
    · intro h
      by_cases h2 : 0 ≤ i ∧ i < (k : Int)
      · exact ⟨i.toNat, List.mem_range.2 (by omega), by omega⟩
      · rw [if_neg h2] at h; cases h
    · rintro ⟨j, hj, rfl⟩
      have := List.mem_range.1 hj
      rw [if_pos (by omega)]; rfl
theorem sel_range (k : Nat) (zs : List Int) (j : Nat) : sel ((List.range k).map fun j : Nat => (j : Int)) zs (j : Int) = (decide (j < k) && pick zs j) := by
  unfold sel
  rw [Bool.eq_iff_iff, List.any_eq_true, Bool.and_eq_true, decide_eq_true_eq]
  simp only [List.length_map, List.length_range]
  constructor
  · rintro ⟨x, hx, h⟩
    have hx' := List.mem_range.1 hx
    rw [Bool.and_eq_true, decide_eq_true_eq, List.getD_eq_getElem?_getD, List.getElem?_map, List.getElem?_range hx'] at h
    have e : x = j := by have := h.2; simp at this; omega
    subst e
    exact ⟨hx', h.1⟩
  · rintro ⟨hj, hp⟩
    refine ⟨j, List.mem_range.2 hj, ?_⟩
    rw [hp, List.getD_eq_getElem?_getD, List.getElem?_map, List.getElem?_range hj]
    simp
/-- what a block has then -/
theorem kp_get (a b : List Nat) (zs : List Int) (ks : List Int) (h : Keys (kp a b 8).pe ks) (j : Nat) (hj : j < 8) :
    ((kp a b 8).crash ks zs).get j = (if pick zs j then .ok b else if j = 3 then .error 6 else if j = 0 then .ok a else .ok (List.replicate 256 0)) ∧ ((kp a b 8).crash ks zs).fa j = (!pick zs j && decide (j = 3)) := by
  have hs : sel ks zs (j : Int) = pick zs j := by rw [kp_keys h, sel_range, decide_eq_true hj, Bool.true_and]
  have hpe : (kp a b 8).pe (j : Int) = some b := if_pos (by omega)
  refine ⟨?_, ?_⟩
  · cases hp : pick zs j with
    | true =>
      rw [if_pos rfl]
      refine get_some rfl (by show 0 ≤ (j : Int) ∧ (j : Int) < ((8 : Nat) : Int); omega) ?_
      show (match (none : Option (List Nat)) with
        | some l => some l
        | none => if (if sel ks zs (j : Int) then false else (kp a b 8).fi j) then none else some ((if sel ks zs (j : Int) then (kp a b 8).pe j else (kp a b 8).fl j).getD _)) = _
      rw [hs, hp, hpe]
      rfl
    | false =>
      rw [if_neg (by simp)]
      by_cases h3 : j = 3
      · rw [if_pos h3]
        subst h3
        refine get_none rfl (by show 0 ≤ ((3 : Nat) : Int) ∧ ((3 : Nat) : Int) < ((8 : Nat) : Int); omega) ?_
        show (match (none : Option (List Nat)) with
          | some l => some l
          | none => if (if sel ks zs ((3 : Nat) : Int) then false else (kp a b 8).fi ((3 : Nat) : Int)) then none else some _) = _
        rw [hs, hp]
        rfl
      · rw [if_neg h3]
        have hr : ((kp a b 8).crash ks zs).read (j : Int) = some ((if j = 0 then some a else none : Option (List Nat)).getD (List.replicate 256 0)) := by
          show (match (none : Option (List Nat)) with
            | some l => some l
            | none => if (if sel ks zs (j : Int) then false else decide ((j : Int) = 3)) then none else some ((if sel ks zs (j : Int) then (kp a b 8).pe j else if (j : Int) = 0 then some a else none).getD _)) = _
          rw [hs, hp]
          simp only [Bool.false_eq_true, if_false]
          rw [decide_eq_false (show ¬ (j : Int) = 3 by omega)]
          by_cases h0 : j = 0
          · subst h0; rfl
          · rw [if_neg (show ¬ (j : Int) = 0 by omega), if_neg h0]; rfl
        have hg := get_some (D := (kp a b 8).crash ks zs) rfl (by show 0 ≤ (j : Int) ∧ (j : Int) < ((8 : Nat) : Int); omega) hr
        rw [hg]
        by_cases h0 : j = 0
        · rw [if_pos h0, if_pos h0]; rfl
        · rw [if_neg h0, if_neg h0]; rfl
  · show (if sel ks zs (j : Int) then false else decide ((j : Int) = 3)) = _
    rw [hs]
    cases pick zs j
    · simp only [Bool.false_eq_true, if_false, Bool.not_false, Bool.true_and]
      exact decide_eq_decide.2 (by omega)
    · rfl
end Go.Proofs.YtlljpljfmaaejaaDoor.DevL
