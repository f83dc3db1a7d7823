/- Has a table a page? The library's ContainsFunc with laid's closure. -/
import Derived.Test.YtbjfgdahfpfgdaaGreatDoorKeepFaultsP9
import Derived.Test.YtbjfgdahfpfgdaaGreatDoorKeepFaultsP11
import Derived.Test.YtbjfgdahfpfgdaaGreatDoorKeepFaultsP5
namespace Go.Proofs.YtbjfgdahfpfgdaaGreatDoor.PgW
open Go Go.RowKit Go.Maps Go.Shelf Go.Proofs Go.Proofs.YtbjfgdahfpfgdaaGreatDoor.Mem Go.Proofs.YtbjfgdahfpfgdaaGreatDoor.MapsW Go.Proofs.YtbjfgdahfpfgdaaGreatDoor.DevG Go.Proofs.YtbjfgdahfpfgdaaGreatDoor.PgP Go.Proofs.YtbjfgdahfpfgdaaGreatDoor.Ints
set_option linter.unusedVariables false
set_option maxRecDepth 100000

theorem inT_w (y t b : Nat) (w : World) (hy : y < 256) (ht : t < 7) (hc : w.cell? ⟨b, 0, none⟩ = some (.int .i64 (t : Int))) :
    Calls Tryz.prog 88 #[.int .i64 (y : Int), .pointer (some ⟨b, 0, none⟩)] w fun e w' => e = .returned (.bool (decide (y / 42 = t))) ∧ w' = w := by
  by_cases h : y / 42 = t
  · rw [decide_eq_true h]
    have h1 : (((y : Int) / 42) == (t : Int)) = true := by rw [beq_iff_eq]; omega
    clear h
    go_enter Tryz.func88, Tryz.ntmps88
    go_wp2
    go_ret
    exact ⟨rfl, rfl⟩
  · rw [decide_eq_false h]
    have h1 : (((y : Int) / 42) == (t : Int)) = false := by rw [beq_eq_false_iff_ne]; omega
    clear h
    go_enter Tryz.func88, Tryz.ntmps88
    go_wp2
    go_ret
    exact ⟨rfl, rfl⟩
abbrev encP (x : Nat) : Value := .int .i64 ((x % 256 : Nat) : Int)
theorem hasT_w (base b t : Nat) (v : Value) (ss : List Int) (F : Int → Option Ref) (w : World) (ho : w.ownsRow base 3 1 v ss.length (ints ss)) (hl : ss.length ≤ 256) (hm : ∀ x, x ∈ ss ↔ (F x).isSome = true) (hd : ∀ i, (F i).isSome = true → 0 ≤ i ∧ i < 256) (ht : t < 7) (hb : b < w.heap.size) (hc : w.cell? ⟨b, 0, none⟩ = some (.int .i64 (t : Int))) :
    Calls Tryz.prog 85 #[v, .func (.func 88) #[] #[.pointer (some ⟨b, 0, none⟩)]] w fun e w' => e = .returned (.bool (has F t)) ∧ ∃ q, w' = w.drewN q := by
  have heq : has F t = (ss.map Int.toNat).any fun x => decide (x % 256 / 42 = t) := by
    rw [Bool.eq_iff_iff, has_iff, List.any_eq_true]
    constructor
    · rintro ⟨p, h1, h2⟩
      obtain ⟨d1, d2⟩ := hd _ h1
      refine ⟨p, List.mem_map.2 ⟨(p : Int), (hm _).2 h1, by simp⟩, ?_⟩
      rw [decide_eq_true_eq, Nat.mod_eq_of_lt (by omega)]
      exact h2
    · rintro ⟨x, hx, h2⟩
      obtain ⟨i, hi, rfl⟩ := List.mem_map.1 hx
      have h1 := (hm _).1 hi
      obtain ⟨d1, d2⟩ := hd _ h1
      rw [decide_eq_true_eq, Nat.mod_eq_of_lt (by omega)] at h2
      exact ⟨i.toNat, by rw [show ((i.toNat : Nat) : Int) = i by omega]; exact h1, h2⟩
  obtain ⟨va, vc, rfl, hr⟩ := ownsRow_slice ho
  cases va with
  | none =>
    have h0 : ss = [] := by
      have h1 := hr.2.2.2.1 rfl
      have h2 := hr.2.1
      exact List.length_eq_zero_iff.1 (by omega)
    subst h0
    refine (AnyE.slices_ContainsFunc_empty Tryz.containsI none vc _ w).mono ?_
    rintro e w' ⟨rfl, rfl⟩
    exact ⟨by rw [heq]; rfl, 0, rfl⟩
  | some ad =>
    rcases ho.2 with ⟨e, _⟩ | ⟨g, c, cur, e, _, _, _⟩
    · cases e
    · cases e
      have hp : PredAt Tryz.prog 88 #[.pointer (some ⟨b, 0, none⟩)] encP (fun x => decide (x % 256 / 42 = t)) w := by
        intro W x hbW
        refine (inT_w (x % 256) t b W (Nat.mod_lt _ (by decide)) ht (keep hbW hc hb)).mono ?_
        rintro e w' ⟨rfl, rfl⟩
        exact ⟨rfl, 0, rfl⟩
      have hcl : ∀ j, j < (ss.map Int.toNat).length → w.cell? ⟨g, 0 + j, none⟩ = some (encP (ss.map Int.toNat)[j]!) := by
        intro j hj
        have hj' : j < ss.length := by simpa using hj
        have h1 := Row.cell hr (j := j) (u := .int .i64 ss[j]) (by simp [ints, hj'])
        rw [h1, getElem!_pos _ j hj, List.getElem_map]
        obtain ⟨d1, d2⟩ := hd ss[j] ((hm _).1 (List.getElem_mem hj'))
        have : ((ss[j].toNat % 256 : Nat) : Int) = ss[j] := by rw [Nat.mod_eq_of_lt (by omega)]; omega
        unfold encP
        rw [this]
      refine (AnyE.slices_ContainsFunc Tryz.containsI encP (fun x => decide (x % 256 / 42 = t)) 88 #[.pointer (some ⟨b, 0, none⟩)] (enters_of Tryz.func88 (by kernel_rfl) rfl) g 0 ss.length vc (ss.map Int.toNat) w hp (by simp) (by omega) hcl).mono ?_
      rintro e w' ⟨rfl, q, rfl⟩
      rw [heq, List.take_of_length_le (by simp)]
      exact ⟨rfl, q, rfl⟩
theorem num_le {w : World} {b n k : Nat} {F : Int → Bool} (h : NumMap w b n F k) (hd : ∀ i, F i = true → 0 ≤ i ∧ i < 256) : k ≤ 256 := by
  obtain ⟨D, h1, h2, h3⟩ := h
  obtain ⟨k1, k0, k2⟩ := ikeys_is h1
  have := cnt_of (F := fun i => if F i then some () else none) (fun i hi => hd i (by cases hF : F i with | true => rfl | false => simp [hF] at hi)) k1 (fun i => by rw [k2, (h3 i).2]; cases F i <;> simp)
  rw [← h2, ← k0, this]
  unfold cnt
  have := List.countP_le_length (p := fun (p : Nat) => ((fun i => if F i = true then some () else none) (p : Int)).isSome) (l := List.range 256)
  simpa using this
end Go.Proofs.YtbjfgdahfpfgdaaGreatDoor.PgW
