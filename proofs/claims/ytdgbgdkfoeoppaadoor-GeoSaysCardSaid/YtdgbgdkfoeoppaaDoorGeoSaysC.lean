/- The walk of GeoSays where the blocks are as many as may be. -/
import Derived.Test.YtdgbgdkfoeoppaaDoorGeoSaysB
import Derived.Test.YtdgbgdkfoeoppaaDoorGeoAny
import Derived.Deep.RegionHeld3
import Derived.Deep.RegionHeld
namespace Go.Proofs.YtdgbgdkfoeoppaaDoor.geoSays
open Go Go.RowKit Go.Proofs.YtdgbgdkfoeoppaaDoor.Mem Go.Proofs.YtdgbgdkfoeoppaaDoor.GeoW
set_option linter.unusedVariables false
set_option maxRecDepth 100000

set_option maxHeartbeats 25600000 in
theorem good (b : Nat) (i : Int) (a : Option Addr) (n cap : Nat) (zs : List Int) (w : World) (hn : n ≤ 40) (b1 : 300 ≤ b) (b2 : b ≤ 6000) (i1 : i ≤ 9223372036854775807)
    (hl : Ints.Is w a n cap zs) (hx : ∀ x ∈ zs, x ≤ 9223372036854775807) :
    Calls Tryd.prog 6 #[.int .i64 b, .int .i64 i, .slice a n cap] w fun e w' => e = .returned (.bool true) ∧ Below w.heap.size w w' := by
  have d1 : decide ((40 : Int) < (n : Int)) = false := by rw [decide_eq_false_iff_not]; omega
  have hg := fun w => of_good b w b1 b2
  have hr := fun w => rgeo_good b w b1 b2
  have hh := half_le b
  have h5 := half_512 b
  have cq := fun w => quota_w b (half b) w b2 hh
  have cr := fun w => rquota_w b (half b) w b2 hh
  have HX := hid hx
  have HL := hid hl.len
  obtain ⟨l1, l2⟩ := hl.bound
  clear hx
  generalize quota b (half b) = q at *
  generalize half b = H at *
  go_enter Tryd.func6, Tryd.ntmps6
  go_wp2_with fail
  refine (first_w _).mono ?_
  rintro e w1 ⟨rfl, hb1⟩
  replace hl := hl.below hb1
  have z1 := hb1.size
  go_wp2_with fail
  refine (hg _).mono ?_
  rintro e w2 ⟨rfl, hb2⟩
  have z2 := hb2.size
  obtain ⟨g0, g1⟩ := new2 w2 (.int .i64 b) (.int .i64 H) 24
  go_wp2_with fail
  refine (hr _).mono ?_
  rintro e w3 ⟨rfl, hb3⟩
  replace g0 := kept hb3 g0
  replace g1 := kept hb3 g1
  have c := below_put hb2 z2 _ hb3
  have z3 := c.size
  clear hb2 hb3
  obtain ⟨x0, x1⟩ := new2 w3 (.int .i64 b) (.int .i64 H) 24
  replace g0 := cell?_alloc_old (.cells #[.int .i64 b, .int .i64 H] 24) g0
  replace g1 := cell?_alloc_old (.cells #[.int .i64 b, .int .i64 H] 24) g1
  go_wp2_with fail
  refine (SeeW.is_nil _ 0).mono ?_
  rintro e w4 ⟨rfl, hb4⟩
  rw [show ((0 : Int) == 0) = true by decide]
  replace g0 := kept hb4 g0
  replace g1 := kept hb4 g1
  replace x0 := kept hb4 x0
  replace x1 := kept hb4 x1
  replace c := below_put c z3 _ hb4
  clear hb4 z3
  have z3 := c.size
  go_wp2_with fail
  refine (partner_i b H i _ i1 b2 hh).mono ?_
  rintro e w5 ⟨rfl, hb5⟩
  replace g0 := kept hb5 g0
  replace g1 := kept hb5 g1
  replace x0 := kept hb5 x0
  replace x1 := kept hb5 x1
  replace c := c.trans (hb5.mono z3)
  clear hb5 z3
  have z3 := c.size
  go_wp2_with fail
  refine (rpartner_i b H i _ i1 h5).mono ?_
  rintro e w6 ⟨rfl, hb6⟩
  replace g0 := kept hb6 g0
  replace g1 := kept hb6 g1
  replace x0 := kept hb6 x0
  replace x1 := kept hb6 x1
  replace c := c.trans (hb6.mono z3)
  clear hb6 z3
  have z3 := c.size
  replace hl := hl.below c
  generalize w2.heap.size = A at *
  generalize w3.heap.size = X at *
  go_wp2_with fail
  have d2 : hit H zs = fun x => ((pti H x).2 && decide (((pti H x).1 : Int) ∈ zs)) := rfl
  have HIT := hid d2
  clear d2
  go_loopw [16, 17] (fun pr k wr => ∃ j : Nat, j ≤ n ∧ k = .int .i64 j ∧ pr = .bool ((zs.take j).any (hit H zs)) ∧ Below w6.heap.size w6 wr) (fun _ k _ => n - (intOf k).toNat)
  case atStart => exact ⟨0, by omega, rfl, by simp, Below.refl _ _⟩
  case round =>
    obtain ⟨j, hj, rfl, rfl, hbel⟩ := hrel
    replace g0 := kept hbel g0
    replace g1 := kept hbel g1
    replace x0 := kept hbel x0
    replace x1 := kept hbel x1
    replace hl := hl.below hbel
    have hz := hbel.size
    have HB := hid hbel
    clear hbel
    by_cases hlt : j < n
    · have hkl : j < zs.length := by rw [HL.out]; exact hlt
      obtain ⟨b0, o0, rfl, hc0⟩ := hl.at hkl
      have HS := hid (any_take_succ hkl (hit H zs))
      have HM := hid (List.getElem_mem hkl)
      generalize zs[j] = y at hc0 HS HM
      have HY := hid (show hit H zs y = ((pti H y).2 && decide (((pti H y).1 : Int) ∈ zs)) from rfl)
      have cp := fun w => rpartner_i b H y w (HX.out y HM.out) h5
      obtain ⟨⟨p, is⟩, hp⟩ : ∃ p, p = pti H y := ⟨_, rfl⟩
      rw [← hp] at cp HY
      clear hp
      generalize hT : (zs.take j).any (hit H zs) = T at *
      have t1 : (0 : Int) ≤ (j : Int) := by omega
      have t2 : (j : Int) < (n : Int) := by omega
      go_wp2_with fail
      have cw : Below w6.heap.size w6 wr := HB.out
      go_region_held3 (fun w' => w'.cell? ⟨X, 0, none⟩ = some (.int .i64 (b : Int)) ∧ w'.cell? ⟨X, 1, none⟩ = some (.int .i64 (H : Int)) ∧ w'.cell? ⟨b0, o0 + j, none⟩ = some (.int .i64 y)) (first | exact ⟨x0, x1, hc0⟩ | go_keep)
        ((go_at_call 27; refine (cp _).mono ?_; rintro e w' ⟨rfl, hb'⟩; replace g0 := kept hb' g0; replace g1 := kept hb' g1; replace x0 := kept hb' x0; replace x1 := kept hb' x1; replace hc0 := kept hb' hc0; replace hl : Ints.Is w' (some ⟨b0, o0, none⟩) n cap zs := Ints.Is.below (w := wr.drew) hl hb'; replace cw : Below w6.heap.size w6 w' := Below.trans (Below.drew cw) (hb'.mono hz)))
      have HLL := hid hl
      have HC := hid cw
      clear hT cp cw HB
      cases T
      · cases is
        · go_wp2_with fail
          go_roundw
          case rel => exact ⟨j + 1, by omega, by go_num, by rw [HS.out, HY.out]; rfl, HC.out⟩
          case measure => simp [intOf]; omega
        · go_wp2_with fail
          refine (Ints.among_w _ n cap zs p _ HLL.out).mono ?_
          rintro e w' ⟨rfl, rfl⟩
          go_wp2_with fail
          go_roundw
          case rel => exact ⟨j + 1, by omega, by go_num, by rw [HS.out, HY.out]; simp, HC.out⟩
          case measure => simp [intOf]; omega
      · go_wp2_with fail
        go_roundw
        case rel => exact ⟨j + 1, by omega, by go_num, by rw [HS.out]; rfl, HC.out⟩
        case measure => simp [intOf]; omega
    · obtain rfl : j = n := by omega
      have hT : (zs.take j).any (hit H zs) = zs.any (hit H zs) := by rw [List.take_of_length_le (by rw [HL.out]; omega)]
      rw [hT]
      clear hT
      have cm := fun w => mirrored_i b H i w i1 hh
      have ct := fun w => data_i b H i w i1
      have cd := fun w => datas_w b H w b2 hh
      have cp := fun w h => paired_w b H a j cap zs w HX.out b2 hh h
      have v1 : IntKind.i64.wrap (2 * (H : Int)) = 2 * (H : Int) := IntWalk.i64_in _ (by omega)
      have v2 : IntKind.i64.wrap ((b : Int) - 2 * (H : Int)) = ((b - 2 * H : Nat) : Int) := by
        rw [IntWalk.i64_in _ (by omega)]; omega
      have cw : Below w6.heap.size w6 wr := HB.out
      have hpt : (pti H i).2 = true → i < 2 * (H : Int) := by
        unfold pti pt
        split
        · simp
        · split
          · intro _; omega
          · split
            · intro _; omega
            · simp
      generalize zs.any (hit H zs) = T at *
      generalize b - 2 * H = D at *
      obtain ⟨⟨p, is⟩, hp⟩ : ∃ q, q = pti H i := ⟨_, rfl⟩
      rw [← hp] at cm hpt ⊢
      clear hp
      rcases Int.lt_or_le i (2 * (H : Int)) with h | h
      case' inl =>
        have e1 : decide (2 * (H : Int) ≤ i) = false := by rw [decide_eq_false_iff_not]; omega
        rw [e1, Bool.false_and] at ct
        clear hpt
        cases is
      case' inr =>
        have e1 : decide (2 * (H : Int) ≤ i) = true := by rw [decide_eq_true_eq]; omega
        obtain rfl : is = false := by
          cases is
          · rfl
          · exact absurd (hpt rfl) (by omega)
        clear hpt
        rcases Int.lt_or_le i (b : Int) with h' | h'
        case' inl =>
          have e2 : decide (i < (b : Int)) = true := by rw [decide_eq_true_eq]; omega
        case' inr =>
          have e2 : decide (i < (b : Int)) = false := by rw [decide_eq_false_iff_not]; omega
      case' inr.inl => rw [e1, e2, Bool.true_and] at ct
      case' inr.inr => rw [e1, e2, Bool.true_and] at ct
      case' inl.false =>
        clear h b1 i1
        go_wp2_with fail
        first
          | go_region_held (fun w' => w'.cell? ⟨A, 0, none⟩ = some (.int .i64 (b : Int)) ∧ w'.cell? ⟨A, 1, none⟩ = some (.int .i64 (H : Int)) ∧ w'.cell? ⟨X, 0, none⟩ = some (.int .i64 (b : Int)) ∧ w'.cell? ⟨X, 1, none⟩ = some (.int .i64 (H : Int))) (first | exact ⟨g0, g1, x0, x1⟩ | go_keep)
            (((first | with_reducible refine (cm _).mono ?_ | with_reducible refine (ct _).mono ?_ | with_reducible refine (cd _).mono ?_ | with_reducible refine (cq _).mono ?_ | with_reducible refine (cr _).mono ?_ | (refine (cp _ ?_).mono ?_; exact hl)); rintro e w' ⟨rfl, hb'⟩; replace g0 := kept hb' g0; replace g1 := kept hb' g1; replace x0 := kept hb' x0; replace x1 := kept hb' x1; replace hl : Ints.Is w' a j cap zs := (by first | exact Row.below hl hb' | exact Row.below (w := wr.drew) hl hb'); replace cw : Below w6.heap.size w6 w' := (by first | exact Below.trans (Below.drew cw) (hb'.mono cw.size) | exact Below.trans cw (hb'.mono cw.size)); clear hb'))
          | fail "region"
      case' inl.true =>
        clear h b1 i1
        go_wp2_with fail
        first
          | go_region_held (fun w' => w'.cell? ⟨A, 0, none⟩ = some (.int .i64 (b : Int)) ∧ w'.cell? ⟨A, 1, none⟩ = some (.int .i64 (H : Int)) ∧ w'.cell? ⟨X, 0, none⟩ = some (.int .i64 (b : Int)) ∧ w'.cell? ⟨X, 1, none⟩ = some (.int .i64 (H : Int))) (first | exact ⟨g0, g1, x0, x1⟩ | go_keep)
            (((first | with_reducible refine (cm _).mono ?_ | with_reducible refine (ct _).mono ?_ | with_reducible refine (cd _).mono ?_ | with_reducible refine (cq _).mono ?_ | with_reducible refine (cr _).mono ?_ | (refine (cp _ ?_).mono ?_; exact hl)); rintro e w' ⟨rfl, hb'⟩; replace g0 := kept hb' g0; replace g1 := kept hb' g1; replace x0 := kept hb' x0; replace x1 := kept hb' x1; replace hl : Ints.Is w' a j cap zs := (by first | exact Row.below hl hb' | exact Row.below (w := wr.drew) hl hb'); replace cw : Below w6.heap.size w6 w' := (by first | exact Below.trans (Below.drew cw) (hb'.mono cw.size) | exact Below.trans cw (hb'.mono cw.size)); clear hb'))
          | fail "region"
      case' inr.inl =>
        clear h b1 i1
        go_wp2_with fail
        first
          | go_region_held3 (fun w' => w'.cell? ⟨A, 0, none⟩ = some (.int .i64 (b : Int)) ∧ w'.cell? ⟨A, 1, none⟩ = some (.int .i64 (H : Int)) ∧ w'.cell? ⟨X, 0, none⟩ = some (.int .i64 (b : Int)) ∧ w'.cell? ⟨X, 1, none⟩ = some (.int .i64 (H : Int))) (first | exact ⟨g0, g1, x0, x1⟩ | go_keep)
            (((first | with_reducible refine (cm _).mono ?_ | with_reducible refine (ct _).mono ?_ | with_reducible refine (cd _).mono ?_ | with_reducible refine (cq _).mono ?_ | with_reducible refine (cr _).mono ?_ | (refine (cp _ ?_).mono ?_; exact hl)); rintro e w' ⟨rfl, hb'⟩; replace g0 := kept hb' g0; replace g1 := kept hb' g1; replace x0 := kept hb' x0; replace x1 := kept hb' x1; replace hl : Ints.Is w' a j cap zs := (by first | exact Row.below hl hb' | exact Row.below (w := wr.drew) hl hb'); replace cw : Below w6.heap.size w6 w' := (by first | exact Below.trans (Below.drew cw) (hb'.mono cw.size) | exact Below.trans cw (hb'.mono cw.size)); clear hb'))
          | fail "region"
      case' inr.inr =>
        clear h b1 i1
        go_wp2_with fail
        first
          | go_region_held3 (fun w' => w'.cell? ⟨A, 0, none⟩ = some (.int .i64 (b : Int)) ∧ w'.cell? ⟨A, 1, none⟩ = some (.int .i64 (H : Int)) ∧ w'.cell? ⟨X, 0, none⟩ = some (.int .i64 (b : Int)) ∧ w'.cell? ⟨X, 1, none⟩ = some (.int .i64 (H : Int))) (first | exact ⟨g0, g1, x0, x1⟩ | go_keep)
            (((first | with_reducible refine (cm _).mono ?_ | with_reducible refine (ct _).mono ?_ | with_reducible refine (cd _).mono ?_ | with_reducible refine (cq _).mono ?_ | with_reducible refine (cr _).mono ?_ | (refine (cp _ ?_).mono ?_; exact hl)); rintro e w' ⟨rfl, hb'⟩; replace g0 := kept hb' g0; replace g1 := kept hb' g1; replace x0 := kept hb' x0; replace x1 := kept hb' x1; replace hl : Ints.Is w' a j cap zs := (by first | exact Row.below hl hb' | exact Row.below (w := wr.drew) hl hb'); replace cw : Below w6.heap.size w6 w' := (by first | exact Below.trans (Below.drew cw) (hb'.mono cw.size) | exact Below.trans cw (hb'.mono cw.size)); clear hb'))
          | fail "region"
      all_goals
        clear cm ct cd cq cr cp v1 v2 g0 g1 x0 x1
        go_wp2_with fail
        go_ret
        exact ⟨ret_bool (by simp), hb1.trans ((c.trans (cw.mono z3)).mono z1)⟩
end Go.Proofs.YtdgbgdkfoeoppaaDoor.geoSays
