/- The walks of package root: what is amiss with a root. -/
import Derived.Test.YtlljpljfmaaejaaDoorRootPlain
import Derived.Test.YtlljpljfmaaejaaDoorRefs
import Derived.Test.YtlljpljfmaaejaaDoorGDev
namespace Go.Proofs.YtlljpljfmaaejaaDoor.RootW
open Go Go.RowKit Go.Proofs.YtlljpljfmaaejaaDoor.Mem Go.Proofs.YtlljpljfmaaejaaDoor.RootP Go.Proofs.YtlljpljfmaaejaaDoor.SeeW Go.Proofs.YtlljpljfmaaejaaDoor.RefsW Go.Proofs.YtlljpljfmaaejaaDoor.DevG
set_option linter.unusedVariables false
set_option maxRecDepth 100000

abbrev Rf (x : Int × Nat) : Value := .agg #[.int .i64 x.1, .int .u32 (x.2 : Int)]
theorem bad_w (x : Int × Nat) (w : World) : Calls Tryd.prog 126 #[Rf x] w fun e w' => e = .returned (.bool (badR x)) ∧ Below w.heap.size w w' := by
  unfold badR
  have b1 := (Below.refl w.heap.size w).alloc (Nat.le_refl _) (.cells #[.int .i64 x.1, .int .u32 (x.2 : Int)] 68)
  by_cases h : x.1 < 0
  · have h1 : decide (x.1 < 0) = true := decide_eq_true h
    rw [h1]
    go_enter Tryd.func126, Tryd.ntmps126
    go_wp2
    go_ret
    exact ⟨ret_bool (by simp), b1⟩
  · have h1 : decide (x.1 < 0) = false := decide_eq_false h
    rw [h1]
    go_enter Tryd.func126, Tryd.ntmps126
    go_wp2
    go_ret
    exact ⟨ret_bool (by simp), b1⟩

theorem any_take_succ {rs : List (Int × Nat)} {k : Nat} (h : k < rs.length) (f : Int × Nat → Bool) : (rs.take (k + 1)).any f = ((rs.take k).any f || f rs[k]) := by
  rw [List.take_succ_eq_append_getElem h, List.any_append]; simp
/-- the closure as a value -/
abbrev fv : Value := .func (.func 126) #[] #[]
set_option maxHeartbeats 800000 in
theorem indexf_w (a : Option Addr) (n cap : Nat) (rs : List (Int × Nat)) (w : World) (hl : Refs w a n cap rs) :
    Calls Tryd.prog 137 #[.slice a n cap, fv] w fun e w' => (∃ r : Int, e = .returned (.int .i64 r) ∧ decide (0 ≤ r) = rs.any badR) ∧ Below w.heap.size w w' := by
  have HL := hid hl.len
  obtain ⟨c1, c2⟩ := hl.bound
  go_enter Tryd.func137, Tryd.ntmps137
  go_wp2_with fail
  go_loopw [8] (fun i wr => ∃ k : Nat, k ≤ n ∧ i = .int .i64 k ∧ (rs.take k).any badR = false ∧ Below w.heap.size w wr) (fun i _ => n - (intOf i).toNat)
  case atStart => exact ⟨0, by omega, rfl, by simp, Below.refl _ _⟩
  case round =>
    obtain ⟨k, hk, rfl, hT, hbel⟩ := hrel
    have HT := hid hT
    clear hT
    replace hl := hl.below hbel
    have hsz := hbel.size
    have HB := hid hbel
    clear hbel
    by_cases hlt : k < n
    · have hkl : k < rs.length := by rw [HL.out]; exact hlt
      obtain ⟨b0, o0, rfl, hc0, hc1⟩ := hl.at hkl
      have HS := hid (any_take_succ hkl badR)
      have HM := hid (List.getElem_mem hkl)
      generalize rs[k] = y at hc0 hc1 HS HM
      go_wp2_with fail
      refine (bad_w y _).mono ?_
      rintro e w2 ⟨rfl, hb2⟩
      have hbb := HB.out.trans (hb2.mono hsz)
      clear hb2 hc0 hl HB
      by_cases hy : badR y = true
      · have HY := hid hy
        rw [hy]
        clear hy
        go_wp2_with fail
        go_ret
        refine ⟨⟨_, rfl, ?_⟩, hbb⟩
        rw [List.any_eq_true.2 ⟨y, HM.out, HY.out⟩]
        simp
      · have hy : badR y = false := by simpa using hy
        have HY := hid hy
        rw [hy]
        clear hy
        go_wp2_with fail
        go_roundw
        case rel => exact ⟨k + 1, by omega, by go_num, by rw [HS.out, HT.out, HY.out]; rfl, hbb⟩
        case measure => simp [intOf]; omega
    · obtain rfl : k = n := by omega
      clear hl
      go_wp2_with fail
      go_ret
      refine ⟨⟨_, rfl, ?_⟩, HB.out⟩
      have h1 := HT.out
      rw [List.take_of_length_le (by rw [HL.out]; omega)] at h1
      rw [h1]
      decide
theorem containsf_w (a : Option Addr) (n cap : Nat) (rs : List (Int × Nat)) (w : World) (hl : Refs w a n cap rs) :
    Calls Tryd.prog 125 #[.slice a n cap, .func (.func 126) #[] #[]] w fun e w' => e = .returned (.bool (rs.any badR)) ∧ Below w.heap.size w w' := by
  have ci := indexf_w a n cap rs w hl
  clear hl
  go_enter Tryd.func125, Tryd.ntmps125
  go_wp2_with fail
  refine ci.mono ?_
  rintro e w' ⟨⟨r, rfl, hr⟩, hbel⟩
  have HR := hid hr
  have HB := hid hbel
  clear hr hbel
  go_wp2_with fail
  go_ret
  exact ⟨ret_bool HR.out, HB.out⟩

/-- a root as a value -/
abbrev Rv (ep : Int) (a : Option Addr) (n cap : Nat) : Value := .agg #[.int .i64 ep, .slice a n cap]
/-- the errors of a root -/
abbrev rerr : List Nat := [2, 3]
set_option maxHeartbeats 1600000 in
theorem fits_w (bs : List Addr) (lo : Nat) (r : Rt) (a : Option Addr) (n cap : Nat) (w : World) (hl : Refs w a n cap r.rs) (hB : Ev w lo bs rerr) :
    Calls Tryd.prog 111 #[Rv r.ep a n cap] w fun e w' => (∃ v, Says bs (amiss r) v ∧ e = .returned v) ∧ Below w.heap.size w w' := by
  have HL := hid hl.len
  obtain ⟨c1, c2⟩ := hl.bound
  obtain ⟨aR, haR, hAR⟩ := hB.get 2 _ (by decide) rfl
  obtain ⟨aM, haM, hAM⟩ := hB.get 3 _ (by decide) rfl
  have bx := (Below.refl w.heap.size w).alloc (Nat.le_refl _) (.cells #[.int .i64 r.ep, .slice a n cap] 98)
  obtain ⟨q0, q1⟩ := new2 w (.int .i64 r.ep) (.slice a n cap) 98
  have hR := hAR.below bx
  have hM := hAM.below bx
  have hlx := hl.below bx
  have A1 := hR.1
  have A2 := hM.1
  by_cases e1 : r.ep < 1
  · have hm : amiss r = some 2 := by unfold amiss badE; rw [decide_eq_true e1]; rfl
    rw [hm]
    have d1 : decide (r.ep < 1) = true := decide_eq_true e1
    go_enter Tryd.func111, Tryd.ntmps111
    go_wp2
    go_ret
    exact ⟨⟨_, ⟨aR, haR, rfl⟩, rfl⟩, bx⟩
  · have d1 : decide (r.ep < 1) = false := decide_eq_false e1
    by_cases e2 : 1099511627776 < r.ep
    · have hm : amiss r = some 2 := by unfold amiss badE; rw [decide_eq_true e2, Bool.or_true]; rfl
      rw [hm]
      have d2 : decide (1099511627776 < r.ep) = true := decide_eq_true e2
      go_enter Tryd.func111, Tryd.ntmps111
      go_wp2
      go_ret
      exact ⟨⟨_, ⟨aR, haR, rfl⟩, rfl⟩, bx⟩
    · have d2 : decide (1099511627776 < r.ep) = false := decide_eq_false e2
      have cf := containsf_w a n cap r.rs _ hlx
      cases ha : r.rs.any badR
      · rw [ha] at cf
        by_cases e3 : 16 < n
        · have hm : amiss r = some 3 := by unfold amiss badE; rw [d1, d2, ha, if_neg (by decide), if_pos (by rw [HL.out]; exact e3)]
          rw [hm]
          clear hm ha
          go_enter Tryd.func111, Tryd.ntmps111
          go_wp2_with fail
          refine cf.mono ?_
          rintro e w2 ⟨rfl, hb2⟩
          replace A1 := kept hb2 A1
          replace A2 := kept hb2 A2
          replace q0 := kept hb2 q0
          replace q1 := kept hb2 q1
          go_wp2
          go_ret
          exact ⟨⟨_, ⟨aM, haM, rfl⟩, rfl⟩, bx.trans (hb2.mono (by simp))⟩
        · have hm : amiss r = none := by unfold amiss badE; rw [d1, d2, ha, if_neg (by decide), if_neg (by rw [HL.out]; exact e3)]
          rw [hm]
          clear hm ha
          go_enter Tryd.func111, Tryd.ntmps111
          go_wp2_with fail
          refine cf.mono ?_
          rintro e w2 ⟨rfl, hb2⟩
          replace A1 := kept hb2 A1
          replace A2 := kept hb2 A2
          replace q0 := kept hb2 q0
          replace q1 := kept hb2 q1
          go_wp2
          go_ret
          exact ⟨⟨_, rfl, rfl⟩, bx.trans (hb2.mono (by simp))⟩
      · rw [ha] at cf
        have hm : amiss r = some 2 := by unfold amiss; rw [ha, Bool.or_true]; rfl
        rw [hm]
        clear hm ha
        go_enter Tryd.func111, Tryd.ntmps111
        go_wp2_with fail
        refine cf.mono ?_
        rintro e w2 ⟨rfl, hb2⟩
        replace A1 := kept hb2 A1
        go_wp2
        go_ret
        exact ⟨⟨_, ⟨aR, haR, rfl⟩, rfl⟩, bx.trans (hb2.mono (by simp))⟩
end Go.Proofs.YtlljpljfmaaejaaDoor.RootW
