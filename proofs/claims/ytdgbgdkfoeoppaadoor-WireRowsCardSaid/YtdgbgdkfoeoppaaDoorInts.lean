/- A slice of integers: sought through. -/
import Derived.Test.YtdgbgdkfoeoppaaDoorProg
import Derived.Test.YtdgbgdkfoeoppaaDoorMem
namespace Go.Proofs.YtdgbgdkfoeoppaaDoor.Ints
open Go Go.RowKit Go.Proofs.YtdgbgdkfoeoppaaDoor.Mem
set_option linter.unusedVariables false
set_option maxRecDepth 100000

def ints (zs : List Int) : List Value := zs.map fun z => .int .i64 z
/-- a slice of integers -/
def Is (w : World) (a : Option Addr) (n cap : Nat) (zs : List Int) : Prop := Row w 1 a n cap (ints zs)
theorem Is.below {w w' : World} {a : Option Addr} {n cap : Nat} {zs : List Int} (h : Is w a n cap zs) (hb : Below w.heap.size w w') : Is w' a n cap zs := Row.below h hb
theorem Is.len {w : World} {a : Option Addr} {n cap : Nat} {zs : List Int} (h : Is w a n cap zs) : zs.length = n := by
  have := h.1; simp [ints] at this; omega
theorem Is.bound {w : World} {a : Option Addr} {n cap : Nat} {zs : List Int} (h : Is w a n cap zs) : n ≤ cap ∧ cap ≤ 9223372036854775807 := by
  have := h.2.2.1; unfold maxLen at this; exact ⟨h.2.1, by omega⟩
theorem Is.at {w : World} {a : Option Addr} {n cap : Nat} {zs : List Int} (h : Is w a n cap zs) {j : Nat} (hj : j < zs.length) :
    ∃ b off, a = some ⟨b, off, none⟩ ∧ w.cell? ⟨b, off + j, none⟩ = some (.int .i64 zs[j]) :=
  h.2.2.2.2 j _ (by simp [ints, hj])
/-- as the row's datum gives them -/
theorem is_of {w : World} {a : Option Addr} {len cap : Nat} {zs : List Int} (h : IsRow .i64 w a len cap zs) :
    ∃ l : List Int, Is w a len cap l ∧ ∀ x ∈ l, (Lit.int .i64 x).wf = true := by
  rcases h with ⟨rfl, rfl, rfl, rfl⟩ | ⟨x, rfl, hl, hm, hz, hc, hw⟩
  · exact ⟨[], ⟨rfl, Nat.le_refl _, Nat.zero_le _, fun _ => rfl, fun j u h => by simp [ints] at h⟩, by simp⟩
  · refine ⟨zs.take len, ⟨?_, hl, hm, fun h => by simp at h, fun j u hj => ?_⟩, ?_⟩
    · simp [ints]; omega
    · have hjl : j < len := by
        have := (List.getElem?_eq_some_iff.1 hj).1
        simp [ints] at this; omega
      have h1 := hc j (by omega)
      obtain ⟨b, off, spot⟩ := x
      have hs : spot = none := by
        have h0 := hc 0 (by omega)
        simpa [Addr.add] using World.cell?_spot h0
      subst hs
      refine ⟨b, off, rfl, ?_⟩
      rw [Addr.add_lit] at h1
      rw [h1]
      have hjz : j < zs.length := by omega
      have hu : u = .int .i64 (zs[j]) := by
        have h2 : (ints (zs.take len))[j]? = some (.int .i64 (zs[j])) := by
          simp [ints, hjl, hjz]
        rw [h2] at hj
        rw [← Option.some.inj hj]
      rw [hu, List.getD_eq_getElem?_getD, List.getElem?_eq_getElem hjz]
      rfl
    · intro y hy
      exact hw y (List.mem_of_mem_take hy)

theorem mem_take_succ {zs : List Int} {k : Nat} (h : k < zs.length) (x : Int) : x ∈ zs.take (k + 1) ↔ x ∈ zs.take k ∨ x = zs[k] := by
  rw [List.take_succ_eq_append_getElem h, List.mem_append, List.mem_singleton]

/-- the reference's search -/
theorem among_w (a : Option Addr) (n cap : Nat) (zs : List Int) (x : Int) (w : World) (h : Is w a n cap zs) :
    Calls Tryd.prog 28 #[.slice a n cap, .int .i64 x] w fun e w' => e = .returned (.bool (decide (x ∈ zs))) ∧ w = w' := by
  have HL := hid h.len
  obtain ⟨c1, c2⟩ := h.bound
  go_enter Tryd.func28, Tryd.ntmps28
  go_wp2
  go_loop [5] (fun i => ∃ k : Nat, k ≤ n ∧ i = .int .i64 k ∧ x ∉ zs.take k) (fun i => n - (intOf i).toNat)
  case atStart => exact ⟨0, by omega, rfl, by simp⟩
  case round =>
    obtain ⟨k, hk, rfl, hT⟩ := hrel
    have HT := hid hT
    clear hT
    by_cases hlt : k < n
    · have hkl : k < zs.length := by rw [HL.out]; exact hlt
      obtain ⟨b0, o0, rfl, hc0⟩ := h.at hkl
      have HS := hid (mem_take_succ hkl x)
      have HM := hid (List.getElem_mem hkl)
      generalize zs[k] = y at hc0 HS HM
      clear h
      by_cases hxy : y = x
      · subst hxy
        go_wp2
        go_ret
        refine ⟨ret_bool ?_, rfl⟩
        simpa using HM.out
      · have hne : (y == x) = false := by simpa using hxy
        have HX := hid hxy
        clear hxy
        go_wp2
        go_round
        case rel => exact ⟨k + 1, by omega, by go_num, fun hx => (HS.out.1 hx).elim HT.out (fun e => HX.out e.symm)⟩
        case measure => simp [intOf]; omega
    · obtain rfl : k = n := by omega
      go_wp2
      go_ret
      refine ⟨ret_bool ?_, rfl⟩
      have h1 := HT.out
      rw [List.take_of_length_le (by rw [HL.out]; omega)] at h1
      simpa using h1

/-- the library's search -/
theorem index_w (a : Option Addr) (n cap : Nat) (zs : List Int) (x : Int) (w : World) (h : Is w a n cap zs) :
    Calls Tryd.prog 71 #[.slice a n cap, .int .i64 x] w fun e w' => (∃ r : Int, e = .returned (.int .i64 r) ∧ decide (0 ≤ r) = decide (x ∈ zs)) ∧ w = w' := by
  have HL := hid h.len
  obtain ⟨c1, c2⟩ := h.bound
  go_enter Tryd.func71, Tryd.ntmps71
  go_wp2
  go_loop [8] (fun i => ∃ k : Nat, k ≤ n ∧ i = .int .i64 k ∧ x ∉ zs.take k) (fun i => n - (intOf i).toNat)
  case atStart => exact ⟨0, by omega, rfl, by simp⟩
  case round =>
    obtain ⟨k, hk, rfl, hT⟩ := hrel
    have HT := hid hT
    clear hT
    by_cases hlt : k < n
    · have hkl : k < zs.length := by rw [HL.out]; exact hlt
      obtain ⟨b0, o0, rfl, hc0⟩ := h.at hkl
      have HS := hid (mem_take_succ hkl x)
      have HM := hid (List.getElem_mem hkl)
      generalize zs[k] = y at hc0 HS HM
      clear h
      by_cases hxy : x = y
      · subst hxy
        go_wp2
        go_ret
        refine ⟨⟨_, rfl, ?_⟩, rfl⟩
        simpa using HM.out
      · have hne : (x == y) = false := by simpa using hxy
        have HX := hid hxy
        clear hxy
        go_wp2
        go_round
        case rel => exact ⟨k + 1, by omega, by go_num, fun hx => (HS.out.1 hx).elim HT.out HX.out⟩
        case measure => simp [intOf]; omega
    · obtain rfl : k = n := by omega
      go_wp2
      go_ret
      refine ⟨⟨_, rfl, ?_⟩, rfl⟩
      have h1 := HT.out
      rw [List.take_of_length_le (by rw [HL.out]; omega)] at h1
      simpa using h1
theorem contains_w (a : Option Addr) (n cap : Nat) (zs : List Int) (x : Int) (w : World) (h : Is w a n cap zs) :
    Calls Tryd.prog 56 #[.slice a n cap, .int .i64 x] w fun e w' => e = .returned (.bool (decide (x ∈ zs))) ∧ w = w' := by
  go_enter Tryd.func56, Tryd.ntmps56
  go_wp2_with fail
  refine (index_w a n cap zs x _ h).mono ?_
  rintro e w' ⟨⟨r, rfl, hr⟩, rfl⟩
  have HR := hid hr
  clear hr
  go_wp2_with fail
  go_ret
  exact ⟨ret_bool HR.out, rfl⟩
end Go.Proofs.YtdgbgdkfoeoppaaDoor.Ints
