/- Plain facts: the areas of BlobHeld. -/
import Derived.Test.YtagbnacffiagcaaDoorAreaFirst
namespace Go.Proofs.YtagbnacffiagcaaDoor.BlobW
open Go Go.RowKit Go.Maps Go.Proofs.YtagbnacffiagcaaDoor.Mem Go.Proofs.YtagbnacffiagcaaDoor.MapsW Go.Proofs.YtagbnacffiagcaaDoor.DevG
set_option linter.unusedVariables false

/-- the first block held, i behind it in use -/
def hA (i : Nat) : Ar := ⟨fun x => decide (151 ≤ x ∧ x < 151 + (i : Int)), fun x => decide (x = 150), i, 1, 150 + i⟩
theorem datas_300 : datas 300 = 150 := by decide
theorem first_300 : first 300 = 150 := by decide
theorem spot_300 (last k : Nat) : spot 300 last k = 150 + (last - 150 + 1 + k) % 150 := by unfold spot; rw [first_300, datas_300]
theorem upd_eq {α : Type} (F : Int → α) (i : Int) (x : α) (j : Int) : upd F i x j = if j = i then x else F j := by
  by_cases h : j = i
  · subst h; rw [if_pos rfl, upd_same]
  · rw [if_neg h, upd_other _ _ h]
theorem none_next : (Ar.none 300).next 300 = some 150 := next_zero (by decide) (by decide) rfl
theorem Ar.same {A B : Ar} (h1 : ∀ x, A.used x = B.used x) (h2 : ∀ x, A.held x = B.held x) (h3 : A.nu = B.nu) (h4 : A.nh = B.nh) (h5 : A.last = B.last) : A = B := by
  cases A; cases B
  obtain rfl := funext h1
  obtain rfl := funext h2
  cases h3; cases h4; cases h5
  rfl
theorem hA_zero : ((Ar.none 300).put 150).drop 150 = hA 0 := by
  refine Ar.same (fun x => ?_) (fun x => ?_) rfl rfl rfl
  · show upd (upd (fun _ => false) ((150 : Nat) : Int) true) 150 false x = decide (151 ≤ x ∧ x < 151 + ((0 : Nat) : Int))
    rw [upd_eq, upd_eq, decide_eq_false (show ¬ (151 ≤ x ∧ x < 151 + ((0 : Nat) : Int)) by omega)]
    split
    · rfl
    · rename_i h
      rw [if_neg (show ¬ x = ((150 : Nat) : Int) from h)]
  · show upd (fun _ => false) 150 true x = decide (x = 150)
    rw [upd_eq]
    split
    · symm; rw [decide_eq_true_eq]; assumption
    · symm; rw [decide_eq_false_iff_not]; assumption
theorem hA_next {i : Nat} (h : i < 149) : (hA i).next 300 = some (151 + i) := by
  refine next_zero (by decide) ?_ ?_
  · rw [spot_300]
    show 150 + (150 + i - 150 + 1 + 0) % 150 = _
    omega
  · show (!decide (151 ≤ ((151 + i : Nat) : Int) ∧ ((151 + i : Nat) : Int) < 151 + (i : Int)) && !decide (((151 + i : Nat) : Int) = 150)) = true
    rw [decide_eq_false (by omega), decide_eq_false (by omega)]; rfl
theorem hA_put {i : Nat} : (hA i).put (151 + i) = hA (i + 1) := by
  refine Ar.same (fun x => ?_) (fun x => rfl) ?_ rfl ?_
  · show upd (fun x => decide (151 ≤ x ∧ x < 151 + (i : Int))) ((151 + i : Nat) : Int) true x = decide (151 ≤ x ∧ x < 151 + ((i + 1 : Nat) : Int))
    rw [upd_eq]
    split
    · symm; rw [decide_eq_true_eq]; omega
    · rw [Bool.eq_iff_iff, decide_eq_true_eq, decide_eq_true_eq]; omega
  · show (if decide (151 ≤ ((151 + i : Nat) : Int) ∧ ((151 + i : Nat) : Int) < 151 + (i : Int)) = true then i else i + 1) = i + 1
    rw [decide_eq_false (by omega)]; rfl
  · show 151 + i = 150 + (i + 1)
    omega
theorem hA_full : (hA 149).next 300 = none := by
  refine List.find?_eq_none.2 fun x hx => ?_
  obtain ⟨j, hj, rfl⟩ := List.mem_map.1 hx
  obtain ⟨h1, h2⟩ := spot_in (b := 300) (last := (hA 149).last) (k := j) (by decide)
  rw [first_300] at h1
  generalize spot 300 (hA 149).last j = s at h1 h2
  show ¬ (!decide (151 ≤ (s : Int) ∧ (s : Int) < 151 + ((149 : Nat) : Int)) && !decide ((s : Int) = 150)) = true
  by_cases h : s = 150
  · rw [decide_eq_true (show (s : Int) = 150 by omega)]; simp
  · rw [decide_eq_true (show 151 ≤ (s : Int) ∧ (s : Int) < 151 + ((149 : Nat) : Int) by omega)]; simp
/-- .. and nothing held any more -/
def hD : Ar := { hA 149 with held := fun _ => false, nh := 0 }
theorem hD_next : hD.next 300 = some 150 := by
  refine next_zero (by decide) ?_ ?_
  · rw [spot_300]; rfl
  · show (!decide (151 ≤ ((150 : Nat) : Int) ∧ ((150 : Nat) : Int) < 151 + ((149 : Nat) : Int)) && !false) = true
    rw [decide_eq_false (by omega)]; rfl
theorem hD_put : (hD.put 150).nu = 150 ∧ (hD.put 150).nh = 0 := by
  refine ⟨?_, rfl⟩
  show (if decide (151 ≤ ((150 : Nat) : Int) ∧ ((150 : Nat) : Int) < 151 + ((149 : Nat) : Int)) = true then 149 else 150) = 150
  rw [decide_eq_false (by omega)]; rfl
theorem hA_used : (hA 0).used 150 = false := rfl
end Go.Proofs.YtagbnacffiagcaaDoor.BlobW
