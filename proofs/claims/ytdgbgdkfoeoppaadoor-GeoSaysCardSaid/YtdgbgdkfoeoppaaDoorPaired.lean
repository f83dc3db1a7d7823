/- geo.Paired. -/
import Derived.Test.YtdgbgdkfoeoppaaDoorGeoRef
import Derived.Test.YtdgbgdkfoeoppaaDoorInts
namespace Go.Proofs.YtdgbgdkfoeoppaaDoor.GeoW
open Go Go.RowKit Go.Proofs.YtdgbgdkfoeoppaaDoor.Mem
set_option linter.unusedVariables false
set_option maxRecDepth 100000

/-- an integer's partner -/
def pti (h : Nat) (x : Int) : Nat × Bool := if x < 0 then (0, false) else pt h x.toNat
theorem partner_i (b h : Nat) (x : Int) (w : World) (hx : x ≤ 9223372036854775807) (hb : b ≤ 6000) (hh : 2 * h ≤ b) :
    Calls Tryd.prog 24 #[G b h, .int .i64 x] w fun e w' => e = .returned (pv (pti h x)) ∧ Below w.heap.size w w' := by
  by_cases h0 : x < 0
  · rw [show pti h x = (0, false) by simp [pti, h0]]
    exact partner_neg b h x w h0
  · obtain ⟨i, rfl⟩ := Int.eq_ofNat_of_zero_le (a := x) (by omega)
    rw [show pti h (i : Int) = pt h i by unfold pti; rw [if_neg h0, Int.toNat_natCast]]
    exact partner_w b h i w (by omega) hb hh
theorem rpartner_i (b h : Nat) (x : Int) (w : World) (hx : x ≤ 9223372036854775807) (hh : h ≤ 512) :
    Calls Tryd.prog 27 #[G b h, .int .i64 x] w fun e w' => e = .returned (pv (pti h x)) ∧ Below w.heap.size w w' := by
  by_cases h0 : x < 0
  · rw [show pti h x = (0, false) by simp [pti, h0]]
    exact rpartner_neg b h x w h0 (by omega)
  · obtain ⟨i, rfl⟩ := Int.eq_ofNat_of_zero_le (a := x) (by omega)
    rw [show pti h (i : Int) = pt h i by unfold pti; rw [if_neg h0, Int.toNat_natCast]]
    exact rpartner_w b h i w (by omega) hh

/-- is an integer's partner among these? -/
def hit (h : Nat) (zs : List Int) (x : Int) : Bool := (pti h x).2 && decide (((pti h x).1 : Int) ∈ zs)

theorem hit_w (b h : Nat) (x : Int) (A B : Nat) (a : Option Addr) (n cap : Nat) (zs : List Int) (w : World) (hx : x ≤ 9223372036854775807) (hb : b ≤ 6000) (hh : 2 * h ≤ b)
    (g0 : w.cell? ⟨A, 0, none⟩ = some (.int .i64 b)) (g1 : w.cell? ⟨A, 1, none⟩ = some (.int .i64 h)) (g2 : w.cell? ⟨B, 0, none⟩ = some (.slice a n cap)) (hl : Ints.Is w a n cap zs) :
    Calls Tryd.prog 55 #[.int .i64 x, .pointer (some ⟨A, 0, none⟩), .pointer (some ⟨B, 0, none⟩)] w fun e w' => e = .returned (.bool (hit h zs x)) ∧ Below w.heap.size w w' := by
  have cp := partner_i b h x w hx hb hh
  unfold hit
  go_enter Tryd.func55, Tryd.ntmps55
  go_wp2_with fail
  refine cp.mono ?_
  rintro e w1 ⟨rfl, hb1⟩
  replace g0 := kept hb1 g0
  replace g1 := kept hb1 g1
  replace g2 := kept hb1 g2
  replace hl := hl.below hb1
  clear cp
  obtain ⟨⟨p, is⟩, hp⟩ : ∃ p, p = pti h x := ⟨_, rfl⟩
  rw [← hp]
  have HP := hid hp.symm
  clear hp
  cases is
  · go_wp2_with fail
    go_ret
    exact ⟨ret_bool (by rw [HP.out]; simp), hb1⟩
  · go_wp2_with fail
    refine (Ints.contains_w a n cap zs p _ hl).mono ?_
    rintro e w' ⟨rfl, rfl⟩
    go_wp2_with fail
    go_ret
    exact ⟨ret_bool (by rw [HP.out]; simp), hb1⟩

theorem any_take_succ {zs : List Int} {k : Nat} (h : k < zs.length) (f : Int → Bool) : (zs.take (k + 1)).any f = ((zs.take k).any f || f zs[k]) := by
  rw [List.take_succ_eq_append_getElem h, List.any_append]; simp

/-- the closure as a value -/
abbrev fv (A B : Nat) : Value := .func (.func 55) #[] #[.pointer (some ⟨A, 0, none⟩), .pointer (some ⟨B, 0, none⟩)]
set_option maxHeartbeats 800000 in
theorem indexf_w (b h : Nat) (A B : Nat) (a : Option Addr) (n cap : Nat) (zs : List Int) (w : World) (hx : ∀ x ∈ zs, x ≤ 9223372036854775807) (hb : b ≤ 6000) (hh : 2 * h ≤ b)
    (g0 : w.cell? ⟨A, 0, none⟩ = some (.int .i64 b)) (g1 : w.cell? ⟨A, 1, none⟩ = some (.int .i64 h)) (g2 : w.cell? ⟨B, 0, none⟩ = some (.slice a n cap)) (hl : Ints.Is w a n cap zs) :
    Calls Tryd.prog 70 #[.slice a n cap, fv A B] w fun e w' => (∃ r : Int, e = .returned (.int .i64 r) ∧ decide (0 ≤ r) = zs.any (hit h zs)) ∧ Below w.heap.size w w' := by
  have HL := hid hl.len
  have HX := hid hx
  clear hx
  obtain ⟨c1, c2⟩ := hl.bound
  go_enter Tryd.func70, Tryd.ntmps70
  go_wp2_with fail
  go_loopw [8] (fun i wr => ∃ k : Nat, k ≤ n ∧ i = .int .i64 k ∧ (zs.take k).any (hit h zs) = false ∧ Below w.heap.size w wr) (fun i _ => n - (intOf i).toNat)
  case atStart => exact ⟨0, by omega, rfl, by simp, Below.refl _ _⟩
  case round =>
    obtain ⟨k, hk, rfl, hT, hbel⟩ := hrel
    have HT := hid hT
    clear hT
    replace g0 := kept hbel g0
    replace g1 := kept hbel g1
    replace g2 := kept hbel g2
    replace hl := hl.below hbel
    have hsz := hbel.size
    have HB := hid hbel
    clear hbel
    by_cases hlt : k < n
    · have hkl : k < zs.length := by rw [HL.out]; exact hlt
      obtain ⟨b0, o0, rfl, hc0⟩ := hl.at hkl
      have HS := hid (any_take_succ hkl (hit h zs))
      have HM := hid (List.getElem_mem hkl)
      generalize zs[k] = y at hc0 HS HM
      go_wp2_with fail
      refine (hit_w b h y A B _ n cap zs _ (HX.out y HM.out) hb hh g0 g1 g2 hl).mono ?_
      rintro e w2 ⟨rfl, hb2⟩
      have hbb := HB.out.trans (hb2.mono hsz)
      clear hb2 g0 g1 g2 hc0 hl HB
      by_cases hy : hit h zs y = true
      · have HY := hid hy
        rw [hy]
        clear hy
        go_wp2_with fail
        go_ret
        refine ⟨⟨_, rfl, ?_⟩, hbb⟩
        rw [List.any_eq_true.2 ⟨y, HM.out, HY.out⟩]
        simp
      · have hy : hit h zs y = false := by simpa using hy
        have HY := hid hy
        rw [hy]
        clear hy
        go_wp2_with fail
        go_roundw
        case rel => exact ⟨k + 1, by omega, by go_num, by rw [HS.out, HT.out, HY.out]; rfl, hbb⟩
        case measure => simp [intOf]; omega
    · obtain rfl : k = n := by omega
      clear g0 g1 g2 hl
      go_wp2_with fail
      go_ret
      refine ⟨⟨_, rfl, ?_⟩, HB.out⟩
      have h1 := HT.out
      rw [List.take_of_length_le (by rw [HL.out]; omega)] at h1
      rw [h1]
      decide
theorem containsf_w (b h : Nat) (A B : Nat) (a : Option Addr) (n cap : Nat) (zs : List Int) (w : World) (hx : ∀ x ∈ zs, x ≤ 9223372036854775807) (hb : b ≤ 6000) (hh : 2 * h ≤ b)
    (g0 : w.cell? ⟨A, 0, none⟩ = some (.int .i64 b)) (g1 : w.cell? ⟨A, 1, none⟩ = some (.int .i64 h)) (g2 : w.cell? ⟨B, 0, none⟩ = some (.slice a n cap)) (hl : Ints.Is w a n cap zs) :
    Calls Tryd.prog 54 #[.slice a n cap, fv A B] w fun e w' => e = .returned (.bool (zs.any (hit h zs))) ∧ Below w.heap.size w w' := by
  have ci := indexf_w b h A B a n cap zs w hx hb hh g0 g1 g2 hl
  clear hx hb hh g0 g1 g2 hl
  go_enter Tryd.func54, Tryd.ntmps54
  go_wp2_with fail
  refine ci.mono ?_
  rintro e w' ⟨⟨r, rfl, hr⟩, hbel⟩
  have HR := hid hr
  have HB := hid hbel
  clear hr hbel
  go_wp2_with fail
  go_ret
  exact ⟨ret_bool HR.out, HB.out⟩
theorem paired_w (b h : Nat) (a : Option Addr) (n cap : Nat) (zs : List Int) (w : World) (hx : ∀ x ∈ zs, x ≤ 9223372036854775807) (hb : b ≤ 6000) (hh : 2 * h ≤ b) (hl : Ints.Is w a n cap zs) :
    Calls Tryd.prog 25 #[G b h, .slice a n cap] w fun e w' => e = .returned (.bool (zs.any (hit h zs))) ∧ Below w.heap.size w w' := by
  go_enter Tryd.func25, Tryd.ntmps25
  go_wp2_with fail
  obtain ⟨g0, g1⟩ := new2 w (.int .i64 b) (.int .i64 h) 24
  have hbel : Below w.heap.size w ((w.alloc (.cells #[.int .i64 b, .int .i64 h] 24)).alloc (.cells #[.slice a n cap] 37)) :=
    ((Below.refl _ _).alloc (Nat.le_refl _) _).alloc (by simp) _
  refine (containsf_w b h w.heap.size (w.heap.size + 1) a n cap zs _ hx hb hh (cell?_alloc_old _ g0) (cell?_alloc_old _ g1) (by have := World.cell?_alloc_mark (w.alloc (.cells #[.int .i64 b, .int .i64 h] 24)); simp) (hl.below hbel)).mono ?_
  rintro e w' ⟨rfl, hb2⟩
  have HB := hid (hbel.trans (hb2.mono hbel.size))
  clear hbel hb2
  go_wp2_with fail
  go_ret
  exact ⟨rfl, HB.out⟩
end Go.Proofs.YtdgbgdkfoeoppaaDoor.GeoW
