/- The walk of RootGreater. -/
import Derived.Test.YtjecnjgngahmfaaDoorRootFirst
import Derived.Test.YtjecnjgngahmfaaDoorRootTwo
namespace Go.Proofs.YtjecnjgngahmfaaDoor.rootGreater
open Go Go.RowKit Go.Maps Go.Proofs.YtjecnjgngahmfaaDoor.Mem Go.Proofs.YtjecnjgngahmfaaDoor.MapsW Go.Proofs.YtjecnjgngahmfaaDoor.RootP Go.Proofs.YtjecnjgngahmfaaDoor.SeeW Go.Proofs.YtjecnjgngahmfaaDoor.RefsW Go.Proofs.YtjecnjgngahmfaaDoor.DevG Go.Proofs.YtjecnjgngahmfaaDoor.Ints Go.Proofs.YtjecnjgngahmfaaDoor.RootW
set_option linter.unusedVariables false
set_option maxRecDepth 100000

theorem sums (ep : Int) (l : List Int) : ∀ x ∈ (madeR ep l).rs, x.2 < 4294967296 := fun x hx => by
  obtain ⟨z, _, rfl⟩ := List.mem_map.1 hx
  exact sumOf_lt z
/-- a root's bytes, or why there are none -/
theorem bytes_any (bs : List Addr) (lo : Nat) (r : Rt) (a : Option Addr) (n cap : Nat) (w : World) (hl : Refs w a n cap r.rs) (hB : Ev w lo bs rerr) (hs : ∀ x ∈ r.rs, x.2 < 4294967296) :
    Calls Tryd.prog 42 #[Rv r.ep a n cap] w fun e w' => (∃ v u, e = .returned (.tuple #[v, u]) ∧ (u = .nilIface ∧ amiss r = none ∨ (amiss r ≠ none ∧ ∃ x, u = ev x))) ∧ Below w.heap.size w w' := by
  cases hk : amiss r with
  | none =>
    refine (bytes_ok bs lo r a n cap w hl hB ((good_iff r).1 hk) hs).mono ?_
    rintro e w' ⟨⟨v, rfl, _⟩, hb⟩
    exact ⟨⟨v, _, rfl, .inl ⟨rfl, rfl⟩⟩, hb⟩
  | some k =>
    refine (bytes_no bs lo r a n cap w hl hB k hk).mono ?_
    rintro e w' ⟨⟨x, hx, rfl⟩, hb⟩
    exact ⟨⟨_, _, rfl, .inr ⟨by simp, x, rfl⟩⟩, hb⟩

set_option maxHeartbeats 3200000 in
/-- where one is none, or both lie in the same blocks -/
theorem over (a b : Int) (al : Option Addr) (ln lc : Nat) (l : List Int) (am : Option Addr) (mn mc : Nat) (m : List Int) (bs : List Addr) (w : World) (hB : Ev w w.heap.size bs six) (hl : Is w al ln lc l) (hm : Is w am mn mc m) (hn : ln ≤ 1000000000) (hn2 : mn ≤ 1000000000)
    (h : amiss (madeR a l) ≠ none ∨ (amiss (madeR a l) = none ∧ amiss (madeR b m) ≠ none) ∨ (amiss (madeR a l) = none ∧ amiss (madeR b m) = none ∧ (a.tmod 2 == b.tmod 2) = true)) :
    Calls Tryd.prog 11 #[.int .i64 a, .int .i64 b, .slice al ln lc, .slice am mn mc] w fun e w' => e = .returned (.bool true) ∧ Below w.heap.size w w' := by
  go_enter Tryd.func11, Tryd.ntmps11
  go_wp2_with fail
  refine (first_w bs w hB).mono ?_
  rintro e w1 ⟨rfl, b1⟩
  have M1 := hid (hm.below b1)
  have E1 := hid (hB.below b1)
  have B1 := hid b1
  have hma := made_w a al ln lc l w1 (hl.below b1) hn
  clear hl hm hB b1
  go_wp2_with fail
  refine hma.mono ?_
  rintro e w2 ⟨⟨ax, cx, rfl, hX⟩, b2⟩
  have bx := b2.trans ((Below.refl w2.heap.size w2).alloc (Nat.le_refl _) (.cells #[.int .i64 (madeR a l).ep, .slice ax (madeR a l).rs.length cx] 73) |>.mono b2.size)
  have M2 := hid (M1.out.below bx)
  have E2 := hid (E1.out.below bx)
  have B2 := hid (B1.out.trans (bx.mono B1.out.size))
  have X2 := hid (hX.below ((Below.refl w2.heap.size w2).alloc (Nat.le_refl _) (.cells #[.int .i64 (madeR a l).ep, .slice ax (madeR a l).rs.length cx] 73)))
  obtain ⟨x0, x1⟩ := new2 w2 (.int .i64 (madeR a l).ep) (.slice ax (madeR a l).rs.length cx) 73
  have hmb := made_w b am mn mc m _ M2.out hn2
  clear hma hX b2 bx M1 E1 B1
  go_wp2_with fail
  refine hmb.mono ?_
  rintro e w3 ⟨⟨ay, cy, rfl, hY⟩, b3⟩
  have bx := b3.trans ((Below.refl w3.heap.size w3).alloc (Nat.le_refl _) (.cells #[.int .i64 (madeR b m).ep, .slice ay (madeR b m).rs.length cy] 73) |>.mono b3.size)
  have E3 := hid (E2.out.below bx)
  have B3 := hid (B2.out.trans (bx.mono B2.out.size))
  have X3 := X2.out.below bx
  have Y3 := hid (hY.below ((Below.refl w3.heap.size w3).alloc (Nat.le_refl _) (.cells #[.int .i64 (madeR b m).ep, .slice ay (madeR b m).rs.length cy] 73)))
  replace x0 := kept bx x0
  replace x1 := kept bx x1
  obtain ⟨y0, y1⟩ := new2 w3 (.int .i64 (madeR b m).ep) (.slice ay (madeR b m).rs.length cy) 73
  have hba := bytes_any bs _ (madeR a l) ax _ cx _ X3 (E3.out.sub (by decide)) (sums a l)
  clear hmb hY b3 bx M2 E2 B2 X2 X3
  go_wp2_with fail
  refine hba.mono ?_
  rintro e w4 ⟨⟨v, u, rfl, hu⟩, b4⟩
  have B4 := hid (B3.out.trans (b4.mono B3.out.size))
  have Y4 := Y3.out.below b4
  replace y0 := kept b4 y0
  replace y1 := kept b4 y1
  have hbb := bytes_any bs _ (madeR b m) ay _ cy _ Y4 ((E3.out.below b4).sub (by decide)) (sums b m)
  clear hba b4 E3 B3 x0 x1 Y3 Y4
  go_wp2_with fail
  refine hbb.mono ?_
  rintro e w5 ⟨⟨v', u', rfl, hu'⟩, b5⟩
  have B5 := B4.out.trans (b5.mono B4.out.size)
  clear hbb b5 B4 y0 y1
  rcases hu with ⟨rfl, h1⟩ | ⟨h1, x, rfl⟩
  · rcases hu' with ⟨rfl, h2⟩ | ⟨h2, x, rfl⟩
    · have hd : (a.tmod 2 == b.tmod 2) = true := by
        rcases h with h | ⟨_, h⟩ | ⟨_, _, h⟩
        · exact absurd h1 h
        · exact absurd h2 h
        · exact h
      clear h h1 h2
      go_wp2_with fail
      go_ret
      exact ⟨rfl, B5⟩
    · clear h h1 h2
      go_wp2_with fail
      go_ret
      exact ⟨rfl, B5⟩
  · clear h h1 hu'
    go_wp2_with fail
    go_ret
    exact ⟨rfl, B5⟩

def zR : Rt := madeR 1099511627776 []
theorem zR_fine : Fine zR := ⟨(good_iff _).1 (by decide), by simp [zR, madeR]⟩
/-- the device at the end -/
def last (x y : Rt) : Dv := ((two (Dv.new 300) 75 x y).raw 3 (enc zR)).raw 77 (enc zR)
theorem last_idle {x y : Rt} (hx : Fine x) (hy : Fine y) : (last x y).Idle := Dv.raw_idle (Dv.raw_idle (two_idle (Dv.Idle.new 300) 75 hx hy) 3 zR_fine.bytes) 77 zR_fine.bytes
theorem last_read {x y : Rt} (hx : Fine x) (hy : Fine y) (i : Int) (h : i ≠ 3 ∧ i ≠ 77) : (last x y).read i = (two (Dv.new 300) 75 x y).read i := by
  unfold last
  rw [Dv.raw_read (Dv.raw_idle (two_idle (Dv.Idle.new 300) 75 hx hy) 3 zR_fine.bytes) 77 zR_fine.bytes, if_neg h.2, Dv.raw_read (two_idle (Dv.Idle.new 300) 75 hx hy) 3 zR_fine.bytes, if_neg h.1]
theorem last_one {x y : Rt} (hx : Fine x) (hy : Fine y) (hp : x.ep.toNat % 2 ≠ y.ep.toNat % 2) (s : Nat) (hs : s ∈ spots 75) :
    oneOf (last x y) (s : Int) = if s % 75 = y.ep.toNat % 2 then some y else some x := by
  have hm := spots_mem hs
  have hr := last_read hx hy (s : Int) (by omega)
  rw [two_read (Dv.Idle.new 300) 75 hx hy] at hr
  by_cases h : s % 75 = y.ep.toNat % 2
  · rw [if_pos h]
    rw [if_pos (by omega)] at hr
    exact one_of hy hr
  · rw [if_neg h]
    rw [if_neg (by omega), if_pos (by omega)] at hr
    exact one_of hx hr
theorem last_best {x y : Rt} (hx : Fine x) (hy : Fine y) (hp : x.ep.toNat % 2 ≠ y.ep.toNat % 2) : bestOf (last x y) 75 = if x.ep < y.ep then y else x := by
  have hex := hx.ep
  have hey := hy.ep
  have ho := last_one hx hy hp
  have sx := spot_of 75 x.ep.toNat
  have sy := spot_of 75 y.ep.toNat
  have or2 : ∀ s ∈ spots 75, ∀ q, oneOf (last x y) (s : Int) = some q → q = x ∨ q = y := by
    intro s hs q hq
    rw [ho s hs] at hq
    split at hq
    · exact .inr (Option.some.inj hq).symm
    · exact .inl (Option.some.inj hq).symm
  split
  · rename_i h
    refine best_two hey.1 h ⟨_, sy.1, ?_⟩ fun s hs q hq => (or2 s hs q hq).symm
    rw [ho _ sy.1, if_pos (by omega)]
  · rename_i h
    refine best_two hex.1 (by omega) ⟨_, sx.1, ?_⟩ or2
    rw [ho _ sx.1, if_neg (by omega)]
theorem last_copies {x y : Rt} (hx : Fine x) (hy : Fine y) (hp : x.ep.toNat % 2 ≠ y.ep.toNat % 2) : copies (last x y) 75 x.ep.toNat = 2 ∧ copies (last x y) 75 y.ep.toNat = 2 := by
  have ho := last_one hx hy hp
  have sx := spot_of 75 x.ep.toNat
  have sy := spot_of 75 y.ep.toNat
  refine ⟨copies_two hx ?_ ?_, copies_two hy ?_ ?_⟩
  · rw [ho _ sx.1, if_neg (by omega)]
  · rw [ho _ sx.2, if_neg (by omega)]
  · rw [ho _ sy.1, if_pos (by omega)]
  · rw [ho _ sy.2, if_pos (by omega)]

set_option maxHeartbeats 6400000 in
theorem good (a b : Int) (al : Option Addr) (ln lc : Nat) (l : List Int) (am : Option Addr) (mn mc : Nat) (m : List Int) (bs : List Addr) (w : World) (hB : Ev w w.heap.size bs six) (hl : Is w al ln lc l) (hm : Is w am mn mc m) (hn : ln ≤ 1000000000) (hn2 : mn ≤ 1000000000)
    (gx : Fine (madeR a l)) (gy : Fine (madeR b m)) (hpar : (a.tmod 2 == b.tmod 2) = false) :
    Calls Tryd.prog 11 #[.int .i64 a, .int .i64 b, .slice al ln lc, .slice am mn mc] w fun e w' => e = .returned (.bool true) ∧ Below w.heap.size w w' := by
  have GX := hid gx
  have GY := hid gy
  have HP := hid (show (madeR a l).ep.toNat % 2 ≠ (madeR b m).ep.toNat % 2 by
    have e1 := gx.ep
    have e2 := gy.ep
    simp only [madeR] at e1 e2 ⊢
    rw [beq_eq_false_iff_ne, Int.tmod_eq_emod_of_nonneg (by omega), Int.tmod_eq_emod_of_nonneg (by omega)] at hpar
    omega)
  clear gx gy
  go_enter Tryd.func11, Tryd.ntmps11
  go_wp2_with fail
  refine (first_w bs w hB).mono ?_
  rintro e w1 ⟨rfl, b1⟩
  have M1 := hid (hm.below b1)
  have E1 := hid (hB.below b1)
  have B1 := hid b1
  have hma := made_w a al ln lc l w1 (hl.below b1) hn
  clear hl hm hB b1
  go_wp2_with fail
  refine hma.mono ?_
  rintro e w2 ⟨⟨ax, cx, rfl, hX⟩, b2⟩
  have bx := b2.trans ((Below.refl w2.heap.size w2).alloc (Nat.le_refl _) (.cells #[.int .i64 (madeR a l).ep, .slice ax (madeR a l).rs.length cx] 73) |>.mono b2.size)
  have M2 := hid (M1.out.below bx)
  have E2 := hid (E1.out.below bx)
  have B2 := hid (B1.out.trans (bx.mono B1.out.size))
  have X2 := hid (hX.below ((Below.refl w2.heap.size w2).alloc (Nat.le_refl _) (.cells #[.int .i64 (madeR a l).ep, .slice ax (madeR a l).rs.length cx] 73)))
  obtain ⟨x0, x1⟩ := new2 w2 (.int .i64 (madeR a l).ep) (.slice ax (madeR a l).rs.length cx) 73
  have hmb := made_w b am mn mc m _ M2.out hn2
  clear hma hX b2 bx M1 E1 B1
  go_wp2_with fail
  refine hmb.mono ?_
  rintro e w3 ⟨⟨ay, cy, rfl, hY⟩, b3⟩
  have bx := b3.trans ((Below.refl w3.heap.size w3).alloc (Nat.le_refl _) (.cells #[.int .i64 (madeR b m).ep, .slice ay (madeR b m).rs.length cy] 73) |>.mono b3.size)
  have E3 := hid (E2.out.below bx)
  have B3 := hid (B2.out.trans (bx.mono B2.out.size))
  have X3 := hid (X2.out.below bx)
  have Y3 := hid (hY.below ((Below.refl w3.heap.size w3).alloc (Nat.le_refl _) (.cells #[.int .i64 (madeR b m).ep, .slice ay (madeR b m).rs.length cy] 73)))
  replace x0 := kept bx x0
  replace x1 := kept bx x1
  obtain ⟨y0, y1⟩ := new2 w3 (.int .i64 (madeR b m).ep) (.slice ay (madeR b m).rs.length cy) 73
  have hba := bytes_ok bs _ (madeR a l) ax _ cx _ X3.out (E3.out.sub (by decide)) GX.out.g GX.out.s
  clear hmb hY b3 bx M2 E2 B2 X2
  go_wp2_with fail
  refine hba.mono ?_
  rintro e w4 ⟨⟨v, rfl, own4⟩, b4⟩
  have B4 := hid (B3.out.trans (b4.mono B3.out.size))
  have X4 := hid (X3.out.below b4)
  have Y4 := hid (Y3.out.below b4)
  have E4 := hid (E3.out.below b4)
  replace x0 := kept b4 x0
  replace x1 := kept b4 x1
  replace y0 := kept b4 y0
  replace y1 := kept b4 y1
  have hbb := bytes_ok bs _ (madeR b m) ay _ cy _ Y4.out (E4.out.sub (by decide)) GY.out.g GY.out.s
  clear hba b4 E3 B3 X3 Y3 own4
  go_wp2_with fail
  refine hbb.mono ?_
  rintro e w5 ⟨⟨v', rfl, own5⟩, b5⟩
  have B5 := hid (B4.out.trans (b5.mono B4.out.size))
  have X5 := hid (X4.out.below b5)
  have Y5 := hid (Y4.out.below b5)
  have E5 := hid ((E4.out.below b5).mono (B4.out.trans (b5.mono B4.out.size)).size)
  have x0' := hid (kept b5 x0)
  have x1' := hid (kept b5 x1)
  have y0' := hid (kept b5 y0)
  have y1' := hid (kept b5 y1)
  clear hbb b5 E4 B4 X4 Y4 own5 x0 x1 y0 y1
  go_wp2_with fail
  refine (new_w 300 w5 (by decide) (by decide)).mono ?_
  rintro e w6 ⟨rfl, h6, b6, z6⟩
  have x0 := kept b6 x0'.out
  have x1 := kept b6 x1'.out
  have hs := save_good bs _ _ _ _ _ (madeR a l) ax cx w6 h6 (Dv.Idle.new 300) (E5.out.below b6) (by decide) (by decide) (X5.out.below b6) GX.out.g GX.out.s (by decide) (by decide)
  have C6 := hid b6
  have O6 := hid h6.own_lo
  have hh : GeoW.half (Dv.new 300).blocks = 75 := by decide
  rw [hh] at hs
  clear b6 z6 h6 hh
  go_wp2_with fail
  refine hs.mono ?_
  rintro e w7 ⟨rfl, m7, h7, t7, _⟩
  have C7 := hid (C6.out.trans (t7.below C6.out.size O6.out))
  have y0 := kept C7.out y0'.out
  have y1 := kept C7.out y1'.out
  have i7 := Dv.saved_idle (Dv.Idle.new 300) 75 (madeR a l).ep.toNat GX.out.bytes
  have hs2 := save_good bs _ _ _ _ _ (madeR b m) ay cy w7 h7 i7 (E5.out.below C7.out) (by show 300 ≤ 300; decide) (by show 300 ≤ 6000; decide) (Y5.out.below C7.out) GY.out.g GY.out.s (by decide) (by show 0 + 1 + 1 + 1 < 900000; decide)
  have hh : GeoW.half ((Dv.new 300).saved 75 (madeR a l).ep.toNat (enc (madeR a l))).blocks = 75 := by show GeoW.half 300 = 75; decide
  rw [hh] at hs2
  have O7 := hid h7.own_lo
  clear hs t7 h7 C6 O6 hh x0 x1
  go_wp2_with fail
  refine hs2.mono ?_
  rintro e w8 ⟨rfl, m8, h8, t8, _⟩
  have C8 := hid (C7.out.trans (t8.below C7.out.size O7.out))
  have H8 : At w8 w5.heap.size (w5.heap.size + 5) (0 + 8 + 8) m8 (two (Dv.new 300) 75 (madeR a l) (madeR b m)) := h8
  have I8 := hid (two_idle (Dv.Idle.new 300) 75 GX.out GY.out)
  clear hs2 t8 h8 i7 C7 O7 y0 y1
  go_wp2_with fail
  refine (made_w 1099511627776 none 0 0 [] _ ⟨rfl, Nat.le_refl _, Nat.zero_le _, fun _ => rfl, fun j u h => by simp [ints] at h⟩ (by decide)).mono ?_
  rintro e w9 ⟨⟨az, cz, rfl, hZ⟩, b9⟩
  have C9 := hid (C8.out.trans (b9.mono C8.out.size))
  have H9 := H8.below b9
  have hbz := bytes_ok bs _ zR az _ cz w9 hZ ((E5.out.below C9.out).sub (by decide)) zR_fine.g zR_fine.s
  clear b9 hZ C8 H8
  go_wp2_with fail
  refine hbz.mono ?_
  rintro e w10 ⟨⟨v, rfl, own10⟩, b10⟩
  obtain ⟨gz, cz', rfl, nz, fz⟩ := row_of own10
  have C10 := hid (C9.out.trans (b10.mono C9.out.size))
  have H10 := H9.below b10
  have og : gz ∉ own (w5.heap.size + 5) m8 := fun hm => by have := H9.old gz hm; omega
  have hr3 := raw_ok _ _ _ m8 _ 3 _ cz' _ w10 H10 (by unfold Fits; omega) (by show (0 : Int) ≤ 3 ∧ (3 : Int) < ((300 : Nat) : Int); decide) nz (by decide)
  have O10 := hid H10.own_lo
  clear hbz own10 b10 C9 H9 H10 fz
  go_wp2_with fail
  refine hr3.mono ?_
  rintro e w11 ⟨rfl, h11, t11⟩
  have C11 := hid (C10.out.trans (t11.below C10.out.size O10.out))
  have nz11 := nums_turn nz t11 (fun b o e => by cases e; exact og)
  have hr77 := raw_ok _ _ _ m8 _ 77 _ cz' _ w11 h11 (by unfold Fits; omega) (by show (0 : Int) ≤ 77 ∧ (77 : Int) < ((300 : Nat) : Int); decide) nz11 (by decide)
  have O11 := hid h11.own_lo
  clear hr3 t11 nz C10 O10 h11
  go_wp2_with fail
  refine hr77.mono ?_
  rintro e w12 ⟨rfl, h12, t12⟩
  have C12 := hid (C11.out.trans (t12.below C11.out.size O11.out))
  have H12 : At w12 w5.heap.size (w5.heap.size + 5) (0 + 8 + 8 + 4 + 4) m8 (last (madeR a l) (madeR b m)) := h12
  have I12 := hid (last_idle GX.out GY.out)
  have hlo := load_w bs _ _ _ _ _ w12 H12 (E5.out.below C12.out) I12.out.down (by show 300 ≤ 300; decide) (by show 300 ≤ 6000; decide) I12.out.bytes
  have hh : GeoW.half (last (madeR a l) (madeR b m)).blocks = 75 := by show GeoW.half 300 = 75; decide
  rw [hh, last_best GX.out GY.out HP.out] at hlo
  have HH := hid hh
  have H12' := hid H12
  clear hr77 t12 nz11 C11 O11 h12 I8 hh H12
  by_cases hlt : a < b
  · have hd : decide (a < b) = true := decide_eq_true hlt
    rw [if_pos (show (madeR a l).ep < (madeR b m).ep from hlt)] at hlo
    have HBE := hid (show bestOf (last (madeR a l) (madeR b m)) (GeoW.half (last (madeR a l) (madeR b m)).blocks) = (madeR b m) by rw [HH.out, last_best GX.out GY.out HP.out, if_pos (show (madeR a l).ep < (madeR b m).ep from hlt)])
    clear hlt
    go_wp2_with fail
    refine hlo.mono ?_
    rintro e w13 ⟨⟨ar, cr, rfl, hR⟩, b13⟩
    rw [decide_eq_true GY.out.ep.1]
    have C13 := C12.out.trans (b13.mono C12.out.size)
    have H13 := H12'.out.below b13
    have bA := (Below.refl w13.heap.size w13).alloc (Nat.le_refl _) (.cells #[.int .i64 (madeR b m).ep, .slice ar (madeR b m).rs.length cr] 73)
    have bB := bA.alloc (by simp) (.cells #[.int .i64 (madeR a l).ep, .slice ax (madeR a l).rs.length cx] 73)
    have x0 := kept bA (kept C13 x0'.out)
    have x1 := kept bA (kept C13 x1'.out)
    have y0 := kept bB (kept C13 y0'.out)
    have y1 := kept bB (kept C13 y1'.out)
    obtain ⟨r0, r1⟩ := new2 w13 (.int .i64 (madeR b m).ep) (.slice ar (madeR b m).rs.length cr) 73
    have r0' := hid r0
    have r1' := hid r1
    replace r0 := kept ((Below.refl _ (w13.alloc (.cells #[.int .i64 (madeR b m).ep, .slice ar (madeR b m).rs.length cr] 73))).alloc (Nat.le_refl _) (.cells #[.int .i64 (madeR a l).ep, .slice ax (madeR a l).rs.length cx] 73)) r0
    replace r1 := kept ((Below.refl _ (w13.alloc (.cells #[.int .i64 (madeR b m).ep, .slice ar (madeR b m).rs.length cr] 73))).alloc (Nat.le_refl _) (.cells #[.int .i64 (madeR a l).ep, .slice ax (madeR a l).rs.length cx] 73)) r1
    have hk := heap_alloc_new (w13.alloc (.cells #[.int .i64 (madeR b m).ep, .slice ar (madeR b m).rs.length cr] 73)) (.cells #[.int .i64 (madeR a l).ep, .slice ax (madeR a l).rs.length cx] 73)
    have hz13 : (w13.alloc (.cells #[.int .i64 (madeR b m).ep, .slice ar (madeR b m).rs.length cr] 73)).heap.size = w13.heap.size + 1 := by simp
    rw [hz13] at hk
    obtain ⟨k0, k1, f0, f1⟩ := blk_c hk
    have hRA := hR.below bA
    clear hlo b13 hR
    go_wp2_with fail
    have bC : Below w13.heap.size w13 ((w13.alloc (.cells #[.int .i64 (madeR b m).ep, .slice ar (madeR b m).rs.length cr] 73)).alloc (.cells #[.int .i64 (madeR b m).ep, .slice ay (madeR b m).rs.length cy] 73)) := bA.alloc (by simp) (.cells #[.int .i64 (madeR b m).ep, .slice ay (madeR b m).rs.length cy] 73)
    have bD : Below (w13.alloc (.cells #[.int .i64 (madeR b m).ep, .slice ar (madeR b m).rs.length cr] 73)).heap.size (w13.alloc (.cells #[.int .i64 (madeR b m).ep, .slice ar (madeR b m).rs.length cr] 73)) ((w13.alloc (.cells #[.int .i64 (madeR b m).ep, .slice ar (madeR b m).rs.length cr] 73)).alloc (.cells #[.int .i64 (madeR b m).ep, .slice ay (madeR b m).rs.length cy] 73)) := (Below.refl _ (w13.alloc (.cells #[.int .i64 (madeR b m).ep, .slice ar (madeR b m).rs.length cr] 73))).alloc (Nat.le_refl _) (.cells #[.int .i64 (madeR b m).ep, .slice ay (madeR b m).rs.length cy] 73)
    have hk2 := heap_alloc_new (w13.alloc (.cells #[.int .i64 (madeR b m).ep, .slice ar (madeR b m).rs.length cr] 73)) (.cells #[.int .i64 (madeR b m).ep, .slice ay (madeR b m).rs.length cy] 73)
    rw [hz13] at hk2
    replace k0 := (blk_c hk2).1
    replace k1 := (blk_c hk2).2.1
    replace r0 := kept bD r0'.out
    replace r1 := kept bD r1'.out
    clear hk hk2
    generalize ((w13.alloc (.cells #[.int .i64 (madeR b m).ep, .slice ar (madeR b m).rs.length cr] 73)).alloc (.cells #[.int .i64 (madeR b m).ep, .slice ay (madeR b m).rs.length cy] 73)) = W at *
    have H14 := hid (H13.below bC)
    have C14 := hid (C13.trans (bC.mono C13.size))
    have A14 := hid (hRA.below bD)
    have S14 := hid (Y5.out.below C14.out)
    have hco := copies_w bs _ _ _ _ _ W H14.out (E5.out.below C14.out) I12.out.down (by show 300 ≤ 300; decide) (by show 300 ≤ 6000; decide) I12.out.bytes (madeR b m).ep.toNat (by rw [HBE.out]; exact GY.out.ep.2.1.symm) GY.out.ep.2.2.1 GY.out.ep.2.2.2
    rw [HH.out, (last_copies GX.out GY.out HP.out).2] at hco
    simp only [Int.cast_ofNat_Int] at hco
    clear bC bD hRA H13 C13 bA bB hz13 x0 x1 y0 y1 f0 f1
    refine hco.mono ?_
    rintro e w15 ⟨rfl, b15⟩
    replace r0 := kept b15 r0
    replace r1 := kept b15 r1
    replace k0 := kept b15 k0
    replace k1 := kept b15 k1
    have C15 := hid (C14.out.trans (b15.mono C14.out.size))
    have hsm := same_w (madeR b m) (madeR b m) ar ay cr cy w15 (A14.out.below b15) (S14.out.below b15)
    clear hco b15 H14 C14 A14 S14
    rw [decide_eq_true (show (madeR b m) = (madeR b m) from rfl)] at hsm
    go_wp2_with fail
    refine hsm.mono ?_
    rintro e w16 ⟨rfl, b16⟩
    have C16 := hid (C15.out.trans (b16.mono C15.out.size))
    clear hsm b16 r0 r1 k0 k1
    go_wp2_with fail
    go_ret
    exact ⟨rfl, B5.out.trans (C16.out.mono B5.out.size)⟩
  · have hd : decide (a < b) = false := decide_eq_false hlt
    rw [if_neg (show ¬ (madeR a l).ep < (madeR b m).ep from hlt)] at hlo
    have HBE := hid (show bestOf (last (madeR a l) (madeR b m)) (GeoW.half (last (madeR a l) (madeR b m)).blocks) = (madeR a l) by rw [HH.out, last_best GX.out GY.out HP.out, if_neg (show ¬ (madeR a l).ep < (madeR b m).ep from hlt)])
    clear hlt
    go_wp2_with fail
    refine hlo.mono ?_
    rintro e w13 ⟨⟨ar, cr, rfl, hR⟩, b13⟩
    rw [decide_eq_true GX.out.ep.1]
    have C13 := C12.out.trans (b13.mono C12.out.size)
    have H13 := H12'.out.below b13
    have bA := (Below.refl w13.heap.size w13).alloc (Nat.le_refl _) (.cells #[.int .i64 (madeR a l).ep, .slice ar (madeR a l).rs.length cr] 73)
    have bB := bA.alloc (by simp) (.cells #[.int .i64 (madeR a l).ep, .slice ax (madeR a l).rs.length cx] 73)
    have x0 := kept bA (kept C13 x0'.out)
    have x1 := kept bA (kept C13 x1'.out)
    have y0 := kept bB (kept C13 y0'.out)
    have y1 := kept bB (kept C13 y1'.out)
    obtain ⟨r0, r1⟩ := new2 w13 (.int .i64 (madeR a l).ep) (.slice ar (madeR a l).rs.length cr) 73
    have r0' := hid r0
    have r1' := hid r1
    replace r0 := kept ((Below.refl _ (w13.alloc (.cells #[.int .i64 (madeR a l).ep, .slice ar (madeR a l).rs.length cr] 73))).alloc (Nat.le_refl _) (.cells #[.int .i64 (madeR a l).ep, .slice ax (madeR a l).rs.length cx] 73)) r0
    replace r1 := kept ((Below.refl _ (w13.alloc (.cells #[.int .i64 (madeR a l).ep, .slice ar (madeR a l).rs.length cr] 73))).alloc (Nat.le_refl _) (.cells #[.int .i64 (madeR a l).ep, .slice ax (madeR a l).rs.length cx] 73)) r1
    have hk := heap_alloc_new (w13.alloc (.cells #[.int .i64 (madeR a l).ep, .slice ar (madeR a l).rs.length cr] 73)) (.cells #[.int .i64 (madeR a l).ep, .slice ax (madeR a l).rs.length cx] 73)
    have hz13 : (w13.alloc (.cells #[.int .i64 (madeR a l).ep, .slice ar (madeR a l).rs.length cr] 73)).heap.size = w13.heap.size + 1 := by simp
    rw [hz13] at hk
    obtain ⟨k0, k1, f0, f1⟩ := blk_c hk
    have hRA := hR.below bA
    clear hlo b13 hR
    go_wp2_with fail
    have bC : Below w13.heap.size w13 ((w13.alloc (.cells #[.int .i64 (madeR a l).ep, .slice ar (madeR a l).rs.length cr] 73)).alloc (.cells #[.int .i64 (madeR a l).ep, .slice ax (madeR a l).rs.length cx] 73)) := bB
    have bD : Below (w13.alloc (.cells #[.int .i64 (madeR a l).ep, .slice ar (madeR a l).rs.length cr] 73)).heap.size (w13.alloc (.cells #[.int .i64 (madeR a l).ep, .slice ar (madeR a l).rs.length cr] 73)) ((w13.alloc (.cells #[.int .i64 (madeR a l).ep, .slice ar (madeR a l).rs.length cr] 73)).alloc (.cells #[.int .i64 (madeR a l).ep, .slice ax (madeR a l).rs.length cx] 73)) := (Below.refl _ (w13.alloc (.cells #[.int .i64 (madeR a l).ep, .slice ar (madeR a l).rs.length cr] 73))).alloc (Nat.le_refl _) (.cells #[.int .i64 (madeR a l).ep, .slice ax (madeR a l).rs.length cx] 73)
    replace r0 := kept bD r0'.out
    replace r1 := kept bD r1'.out
    clear hk
    generalize ((w13.alloc (.cells #[.int .i64 (madeR a l).ep, .slice ar (madeR a l).rs.length cr] 73)).alloc (.cells #[.int .i64 (madeR a l).ep, .slice ax (madeR a l).rs.length cx] 73)) = W at *
    have H14 := hid (H13.below bC)
    have C14 := hid (C13.trans (bC.mono C13.size))
    have A14 := hid (hRA.below bD)
    have S14 := hid (X5.out.below C14.out)
    have hco := copies_w bs _ _ _ _ _ W H14.out (E5.out.below C14.out) I12.out.down (by show 300 ≤ 300; decide) (by show 300 ≤ 6000; decide) I12.out.bytes (madeR a l).ep.toNat (by rw [HBE.out]; exact GX.out.ep.2.1.symm) GX.out.ep.2.2.1 GX.out.ep.2.2.2
    rw [HH.out, (last_copies GX.out GY.out HP.out).1] at hco
    simp only [Int.cast_ofNat_Int] at hco
    clear bC bD hRA H13 C13 bA bB hz13 x0 x1 y0 y1 f0 f1
    refine hco.mono ?_
    rintro e w15 ⟨rfl, b15⟩
    replace r0 := kept b15 r0
    replace r1 := kept b15 r1
    replace k0 := kept b15 k0
    replace k1 := kept b15 k1
    have C15 := hid (C14.out.trans (b15.mono C14.out.size))
    have hsm := same_w (madeR a l) (madeR a l) ar ax cr cx w15 (A14.out.below b15) (S14.out.below b15)
    clear hco b15 H14 C14 A14 S14
    rw [decide_eq_true (show (madeR a l) = (madeR a l) from rfl)] at hsm
    go_wp2_with fail
    refine hsm.mono ?_
    rintro e w16 ⟨rfl, b16⟩
    have C16 := hid (C15.out.trans (b16.mono C15.out.size))
    clear hsm b16 r0 r1 k0 k1
    go_wp2_with fail
    go_ret
    exact ⟨rfl, B5.out.trans (C16.out.mono B5.out.size)⟩
theorem walk (a0 a1 : Int) (a2 : Option Addr) (len2 cap2 : Nat) (z2 : List Int) (a3 : Option Addr) (len3 cap3 : Nat) (z3 : List Int) (w : World) (hE : Err.All w [4, 0, 5, 1, 3, 2]) (w0 : (Lit.int .i64 a0).wf = true) (w1 : (Lit.int .i64 a1).wf = true) (w2 : IsRow .i64 w a2 len2 cap2 z2) (w3 : IsRow .i64 w a3 len3 cap3 z3) (s2 : len2 ≤ 1048576) (s3 : len3 ≤ 1048576) :
    Calls Tryd.prog 11 #[.int .i64 a0, .int .i64 a1, .slice a2 len2 cap2, .slice a3 len3 cap3] w fun e w' => e = .returned (.bool true) ∧ Below w.heap.size w w' := by
  obtain ⟨bs, hB⟩ := Ev.of_all hE six rfl (by decide)
  obtain ⟨l, hl, _⟩ := is_of w2
  obtain ⟨m, hm, _⟩ := is_of w3
  cases h1 : amiss (madeR a0 l) with
  | some k => exact over a0 a1 a2 len2 cap2 l a3 len3 cap3 m bs w hB hl hm (by omega) (by omega) (.inl (by rw [h1]; simp))
  | none =>
    cases h2 : amiss (madeR a1 m) with
    | some k => exact over a0 a1 a2 len2 cap2 l a3 len3 cap3 m bs w hB hl hm (by omega) (by omega) (.inr (.inl ⟨h1, by rw [h2]; simp⟩))
    | none =>
      cases h3 : (a0.tmod 2 == a1.tmod 2) with
      | true => exact over a0 a1 a2 len2 cap2 l a3 len3 cap3 m bs w hB hl hm (by omega) (by omega) (.inr (.inr ⟨h1, h2, h3⟩))
      | false => exact good a0 a1 a2 len2 cap2 l a3 len3 cap3 m bs w hB hl hm (by omega) (by omega) ⟨(good_iff _).1 h1, sums a0 l⟩ ⟨(good_iff _).1 h2, sums a1 m⟩ h3
end Go.Proofs.YtjecnjgngahmfaaDoor.rootGreater
