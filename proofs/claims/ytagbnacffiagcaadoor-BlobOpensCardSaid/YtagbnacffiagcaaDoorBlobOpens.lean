/- Plain facts: the places that BlobOpens hands in. -/
import Derived.Test.YtagbnacffiagcaaDoorAreaTake
import Derived.Test.YtagbnacffiagcaaDoorBlobPlain
namespace Go.Proofs.YtagbnacffiagcaaDoor.BlobW
open Go Go.RowKit Go.Maps Go.Proofs.YtagbnacffiagcaaDoor.Mem Go.Proofs.YtagbnacffiagcaaDoor.MapsW Go.Proofs.YtagbnacffiagcaaDoor.DevG
set_option linter.unusedVariables false

/-- the j-th place, as the law reckons it -/
def ko (zs : List Int) (j : Nat) : Nat := ((zs.getD j 0) % 310).toNat
theorem ko_lt (zs : List Int) (j : Nat) : ko zs j < 310 := by
  unfold ko
  have := Int.emod_lt_of_pos (zs.getD j 0) (show (0 : Int) < 310 by decide)
  have := Int.emod_nonneg (zs.getD j 0) (show (310 : Int) ≠ 0 by decide)
  omega
/-- what is handed in -/
def refsOf (zs : List Int) : List (Int × Nat) := zs.map fun z => (z % 310, 5)
theorem refsOf_plc {zs : List Int} {j : Nat} (h : j < zs.length) : plc (refsOf zs) j = ((ko zs j : Nat) : Int) := by
  rw [plc_at (by unfold refsOf; simpa using h)]
  unfold refsOf ko
  rw [List.getD_eq_getElem?_getD, List.getElem?_eq_getElem h]
  have := Int.emod_nonneg zs[j] (show (310 : Int) ≠ 0 by decide)
  simp
  omega
/-- which are there already -/
def inn (zs : List Int) : Nat → Nat → Bool
  | 0 => fun _ => false
  | j + 1 => fun q => if q = ko zs j ∧ ko zs j < 300 then true else inn zs j q
def badk (zs : List Int) : Nat → Bool
  | 0 => false
  | j + 1 => badk zs j || decide (ko zs j < 150) || decide (300 ≤ ko zs j) || (inn zs j (min (ko zs j) 299) && decide (ko zs j < 300))
theorem badk_of {zs : List Int} {j : Nat} (h : badk zs (j + 1) = false) : badk zs j = false ∧ 150 ≤ ko zs j ∧ ko zs j < 300 ∧ inn zs j (ko zs j) = false := by
  unfold badk at h
  simp only [Bool.or_eq_false_iff, decide_eq_false_iff_not, Bool.and_eq_false_iff] at h
  obtain ⟨⟨⟨h1, h2⟩, h3⟩, h4⟩ := h
  have h5 : ko zs j < 300 := by omega
  refine ⟨h1, by omega, h5, ?_⟩
  rcases h4 with h4 | h4
  · rwa [Nat.min_eq_left (by omega)] at h4
  · omega
/-- as long as nothing is bad: the area has just these in use -/
structure Good (zs : List Int) (j : Nat) : Prop where
  fair : ∀ i, i < j → fair 300 (refsOf zs) i = true
  used : ∀ x : Int, (taken 300 (refsOf zs) j).used x = (decide (0 ≤ x) && inn zs j x.toNat)
  held : ∀ x : Int, (taken 300 (refsOf zs) j).held x = false
  nu : (taken 300 (refsOf zs) j).nu = j
  nh : (taken 300 (refsOf zs) j).nh = 0
  last : (taken 300 (refsOf zs) j).last = 299
  lst : ∃ L : List Nat, L.length ≤ j ∧ ∀ q, inn zs j q = true → q ∈ L
theorem isData_300 (k : Nat) : isData 300 ((k : Nat) : Int) = decide (150 ≤ k ∧ k < 300) := by
  unfold isData
  have h : GeoW.half 300 = 75 := by decide
  rw [h]
  exact decide_eq_decide.2 ⟨fun h => by omega, fun h => by omega⟩
theorem good_of (zs : List Int) : ∀ j, j ≤ zs.length → badk zs j = false → Good zs j := by
  intro j
  induction j with
  | zero =>
    intro _ _
    exact ⟨fun i h => by omega, fun x => by show false = _; rw [show inn zs 0 x.toNat = false from rfl, Bool.and_false], fun x => rfl, rfl, rfl, rfl, [], Nat.le_refl _, fun q h => by cases h⟩
  | succ j ih =>
    intro hj hb
    obtain ⟨b1, b2, b3, b4⟩ := badk_of hb
    have g := ih (by omega) b1
    have hp : plc (refsOf zs) j = ((ko zs j : Nat) : Int) := refsOf_plc (by omega)
    have hu : (taken 300 (refsOf zs) j).used ((ko zs j : Nat) : Int) = false := by
      rw [g.used, Int.toNat_natCast, b4, Bool.and_false]
    have e : taken 300 (refsOf zs) (j + 1) = (taken 300 (refsOf zs) j).use ((ko zs j : Nat) : Int) := by
      show (taken 300 (refsOf zs) j).use (plc (refsOf zs) j) = _
      rw [hp]
    refine ⟨fun i hi => ?_, fun x => ?_, fun x => ?_, ?_, ?_, ?_, ?_⟩
    · rcases Nat.lt_or_ge i j with h | h
      · exact g.fair i h
      · obtain rfl : i = j := by omega
        unfold BlobW.fair
        rw [hp, isData_300, hu, decide_eq_true ⟨b2, b3⟩]
        rfl
    · rw [e]
      show upd _ _ true x = _
      rw [upd_eq, g.used]
      by_cases hx : x = ((ko zs j : Nat) : Int)
      · rw [if_pos hx, hx]
        show true = (_ && (if (((ko zs j : Nat) : Int)).toNat = ko zs j ∧ ko zs j < 300 then true else _))
        rw [Int.toNat_natCast, if_pos ⟨rfl, b3⟩, decide_eq_true (by omega)]
        rfl
      · rw [if_neg hx]
        show _ = (_ && (if x.toNat = ko zs j ∧ ko zs j < 300 then true else inn zs j x.toNat))
        by_cases h0 : 0 ≤ x
        · rw [if_neg (by omega)]
        · rw [decide_eq_false h0, Bool.false_and, Bool.false_and]
    · rw [e]; exact g.held x
    · rw [e]
      show (if (taken 300 (refsOf zs) j).used _ then _ else _) = _
      rw [hu, g.nu]
      rfl
    · rw [e]; exact g.nh
    · rw [e]; exact g.last
    · obtain ⟨L, hL, hq⟩ := g.lst
      refine ⟨ko zs j :: L, by simp; exact hL, fun q h => ?_⟩
      change (if q = ko zs j ∧ ko zs j < 300 then true else inn zs j q) = true at h
      split at h
      · rename_i h2; rw [h2.1]; exact List.mem_cons_self
      · exact List.mem_cons_of_mem _ (hq q h)
/-- .. else there is one that may not be taken -/
theorem unfair_of (zs : List Int) : ∀ j, j ≤ zs.length → badk zs j = true → ∃ K, K < j ∧ (∀ i, i < K → fair 300 (refsOf zs) i = true) ∧ fair 300 (refsOf zs) K = false := by
  intro j
  induction j with
  | zero => intro _ h; cases h
  | succ j ih =>
    intro hj hb
    cases hbj : badk zs j with
    | true =>
      obtain ⟨K, h1, h2⟩ := ih (by omega) hbj
      exact ⟨K, by omega, h2⟩
    | false =>
      have g := good_of zs j (by omega) hbj
      refine ⟨j, by omega, g.fair, ?_⟩
      have hp : plc (refsOf zs) j = ((ko zs j : Nat) : Int) := refsOf_plc (by omega)
      unfold BlobW.fair
      rw [hp, isData_300, g.used, Int.toNat_natCast, decide_eq_true (show (0 : Int) ≤ ((ko zs j : Nat) : Int) by omega), Bool.true_and]
      unfold badk at hb
      rw [hbj, Bool.false_or] at hb
      by_cases h1 : 150 ≤ ko zs j ∧ ko zs j < 300
      · rw [decide_eq_false (show ¬ ko zs j < 150 by omega), decide_eq_false (show ¬ 300 ≤ ko zs j by omega), Nat.min_eq_left (by omega), decide_eq_true h1.2] at hb
        simp only [Bool.false_or, Bool.and_true] at hb
        rw [hb]; simp
      · rw [decide_eq_false h1]; rfl
/-- as many as are told apart are at most as many as they are of -/
theorem pigeon : ∀ (S L : List Nat), S.Nodup → (∀ x ∈ S, x ∈ L) → S.length ≤ L.length := by
  intro S
  induction S with
  | nil => intro L _ _; exact Nat.zero_le _
  | cons x S ih =>
    intro L hn h
    rw [List.nodup_cons] at hn
    have hx := h x List.mem_cons_self
    have h1 := ih (L.erase x) hn.2 fun y hy => by
      have hne : y ≠ x := by rintro rfl; exact hn.1 hy
      exact (List.mem_erase_of_ne hne).2 (h y (List.mem_cons_of_mem _ hy))
    rw [List.length_erase_of_mem hx] at h1
    have := List.length_pos_of_mem hx
    simp only [List.length_cons]
    omega
/-- as long as less than 150 are in use or held there is a place -/
theorem next_few {A : Ar} {L : List Nat} (hl : 150 ≤ A.last ∧ A.last < 300) (hL : L.length < 150) (hU : ∀ q : Nat, 150 ≤ q → q < 300 → A.free ((q : Nat) : Int) = false → q ∈ L) :
    ∃ p, A.next 300 = some p ∧ 150 ≤ p ∧ p < 300 ∧ A.free ((p : Nat) : Int) = true := by
  cases hx : A.next 300 with
  | some p =>
    obtain ⟨K, hK, hp, hf, _⟩ := next_some hx
    have := spot_in (b := 300) (last := A.last) (k := K) (by decide)
    rw [first_300, ← hp] at this
    exact ⟨p, rfl, this.1, this.2, hf⟩
  | none =>
    exfalso
    have hn := next_none hx
    rw [datas_300] at hn
    have h2 := pigeon (List.range' 150 150) L List.nodup_range' fun q hq => by
      rw [List.mem_range'_1] at hq
      refine hU q (by omega) (by omega) ?_
      have h3 := hn ((q - 150 + 300 - (A.last - 150 + 1)) % 150) (Nat.mod_lt _ (by decide))
      rw [spot_300] at h3
      have e : 150 + (A.last - 150 + 1 + (q - 150 + 300 - (A.last - 150 + 1)) % 150) % 150 = q := by omega
      rw [e] at h3
      exact h3
    rw [List.length_range'] at h2
    omega
end Go.Proofs.YtagbnacffiagcaaDoor.BlobW
