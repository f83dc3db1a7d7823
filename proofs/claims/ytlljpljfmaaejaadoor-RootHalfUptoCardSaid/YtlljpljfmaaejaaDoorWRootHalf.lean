/- The walk of RootHalf. -/
import Derived.Test.YtlljpljfmaaejaaDoorRootFirst
import Derived.Test.YtlljpljfmaaejaaDoorRootCut
import Derived.Test.YtlljpljfmaaejaaDoorNumWalk
import Derived.Test.YtlljpljfmaaejaaDoorGDevAsk
import Derived.Test.YtlljpljfmaaejaaDoorDevCrash
import Derived.Test.YtlljpljfmaaejaaDoorDevArm
namespace Go.Proofs.YtlljpljfmaaejaaDoor.rootHalf
open Go Go.RowKit Go.Maps Go.Proofs.YtlljpljfmaaejaaDoor.Mem Go.Proofs.YtlljpljfmaaejaaDoor.MapsW Go.Proofs.YtlljpljfmaaejaaDoor.RootP Go.Proofs.YtlljpljfmaaejaaDoor.SeeW Go.Proofs.YtlljpljfmaaejaaDoor.RefsW Go.Proofs.YtlljpljfmaaejaaDoor.DevG Go.Proofs.YtlljpljfmaaejaaDoor.Ints Go.Proofs.YtlljpljfmaaejaaDoor.RootW
set_option linter.unusedVariables false
set_option maxRecDepth 100000

theorem sums (ep : Int) (l : List Int) : ∀ x ∈ (madeR ep l).rs, x.2 < 4294967296 := fun x hx => by
  obtain ⟨z, _, rfl⟩ := List.mem_map.1 hx
  exact sumOf_lt z
theorem is_two (w : World) (x y : Int) (t : TypeId) : Is (w.alloc (.cells #[.int .i64 x, .int .i64 y] t)) (some ⟨w.heap.size, 0, none⟩) 2 2 [x, y] := by
  obtain ⟨c0, c1⟩ := new2 w (.int .i64 x) (.int .i64 y) t
  refine ⟨rfl, Nat.le_refl _, by unfold maxLen; omega, fun h => by simp at h, fun j u hj => ?_⟩
  match j, hj with
  | 0, hj => cases hj; exact ⟨_, 0, rfl, c0⟩
  | 1, hj => cases hj; exact ⟨_, 0, rfl, c1⟩
theorem is_one (w : World) (x : Int) (t : TypeId) : Is (w.alloc (.cells #[.int .i64 x] t)) (some ⟨w.heap.size, 0, none⟩) 1 1 [x] := Row.fresh w #[.int .i64 x] t (0, 0) 1 rfl (by decide)
theorem Is.turn {w w' : World} {a : Option Addr} {n cap : Nat} {zs : List Int} (h : Is w a n cap zs) {S : List Nat} (ht : Turn S w w') (hS : ∀ b o, a = some ⟨b, o, none⟩ → b ∉ S) : Is w' a n cap zs :=
  Row.keep h fun b o e hlt => ht.block b hlt (hS b o e)
/-- a root's bytes, or why there are none -/
theorem bytes_any (bs : List Addr) (lo : Nat) (r : Rt) (a : Option Addr) (n cap : Nat) (w : World) (hl : Refs w a n cap r.rs) (hB : Ev w lo bs rerr) (hs : ∀ x ∈ r.rs, x.2 < 4294967296) :
    Calls Tryd.prog 74 #[Rv r.ep a n cap] w fun e w' => (∃ v u, e = .returned (.tuple #[v, u]) ∧ (u = .nilIface ∧ amiss r = none ∨ (amiss r ≠ none ∧ ∃ x, u = ev x))) ∧ Below w.heap.size w w' := by
  cases hk : amiss r with
  | none =>
    refine (bytes_ok bs lo r a n cap w hl hB ((good_iff r).1 hk) hs).mono ?_
    rintro e w' ⟨⟨v, rfl, _⟩, hb⟩
    exact ⟨⟨v, _, rfl, .inl ⟨rfl, rfl⟩⟩, hb⟩
  | some k =>
    refine (bytes_no bs lo r a n cap w hl hB k hk).mono ?_
    rintro e w' ⟨⟨x, hx, rfl⟩, hb⟩
    exact ⟨⟨_, _, rfl, .inr ⟨by simp, x, rfl⟩⟩, hb⟩
theorem HH : GeoW.half 300 = 75 := by decide

set_option maxHeartbeats 6400000 in
theorem nogood (a0 : Int) (second : Bool) (a : Option Addr) (len cap : Nat) (l : List Int) (bs : List Addr) (w : World) (hB : Ev w w.heap.size bs six) (hl : Is w a len cap l) (hn : len ≤ 1000000000) (h1 : -9223372036854775808 ≤ a0 ∧ a0 ≤ 9223372036854775807) (k : Nat) (hk : a0 % 20 = (k : Int)) (hk20 : k < 20) (hbad : amiss (madeR ((k + 1 : Nat) : Int) l) ≠ none) :
    Calls Tryd.prog 14 #[.int .i64 a0, .bool second, .slice a len cap] w fun e w' => e = .returned (.bool true) ∧ Below w.heap.size w w' := by
  obtain ⟨n, hnk⟩ : ∃ n : Nat, n = k + 1 := ⟨_, rfl⟩
  have hkn : (k : Int) + 1 = (n : Int) := by omega
  have hn1 : 1 ≤ n := by omega
  have hn20 : n ≤ 20 := by omega
  rw [← hnk] at hbad
  have HK := hid hnk
  clear hnk
  go_enter Tryd.func14, Tryd.ntmps14
  go_wp2_with fail
  refine (first_w bs w hB).mono ?_
  rintro e w1 ⟨rfl, b1⟩
  have E1 := hid (hB.below b1)
  have B1 := hid b1
  have L1 := hid (hl.below b1)
  clear hB b1 hl
  go_wp2_with fail
  refine (NumW.number_w a0 20 _ (by decide) (by decide) h1.1 h1.2).mono ?_
  rintro e w' ⟨rfl, rfl⟩
  rw [hk]
  clear hk h1
  have hma := made_w (n : Int) a len cap l w1 L1.out hn
  go_wp2_with fail
  refine hma.mono ?_
  rintro e w2 ⟨⟨ax, cx, rfl, hX⟩, b2⟩
  have HM := hid (show madeR (n : Int) l = madeR (n : Int) l from rfl)
  have bx := b2.trans ((Below.refl w2.heap.size w2).alloc (Nat.le_refl _) (.cells #[.int .i64 (madeR (n : Int) l).ep, .slice ax (madeR (n : Int) l).rs.length cx] 98) |>.mono b2.size)
  have E2 := hid (E1.out.below bx)
  have B2 := hid (B1.out.trans (bx.mono B1.out.size))
  have X2 := hid (hX.below ((Below.refl w2.heap.size w2).alloc (Nat.le_refl _) (.cells #[.int .i64 (madeR (n : Int) l).ep, .slice ax (madeR (n : Int) l).rs.length cx] 98)))
  obtain ⟨x0, x1⟩ := new2 w2 (.int .i64 (madeR (n : Int) l).ep) (.slice ax (madeR (n : Int) l).rs.length cx) 98
  clear hma hX b2 bx E1 B1 L1
  go_wp2_with fail
  generalize w2.alloc (.cells #[.int .i64 (madeR (n : Int) l).ep, .slice ax (madeR (n : Int) l).rs.length cx] 98) = w3 at *
  refine (bytes_any bs _ (madeR (n : Int) l) ax _ cx w3 X2.out (E2.out.sub (by decide)) (sums _ _)).mono ?_
  rintro e w4 ⟨⟨v, u, rfl, ⟨_, hg⟩ | ⟨_, x, rfl⟩⟩, b4⟩
  · exact absurd hg hbad
  have B4 := hid (B2.out.trans (b4.mono B2.out.size))
  clear b4 X2 E2 x0 x1
  go_wp2_with fail
  go_ret
  exact ⟨rfl, B4.out⟩
set_option maxHeartbeats 6400000 in
theorem second0 (a0 : Int) (a : Option Addr) (len cap : Nat) (l : List Int) (bs : List Addr) (w : World) (hB : Ev w w.heap.size bs six) (hl : Is w a len cap l) (hn : len ≤ 1000000000) (h1 : -9223372036854775808 ≤ a0 ∧ a0 ≤ 9223372036854775807) (k : Nat) (hk : a0 % 20 = (k : Int)) (hk20 : k < 20) (hF : Fine (madeR ((k + 1 : Nat) : Int) l)) (h0 : k = 0) :
    Calls Tryd.prog 14 #[.int .i64 a0, .bool true, .slice a len cap] w fun e w' => e = .returned (.bool true) ∧ Below w.heap.size w w' := by
  obtain ⟨n, hnk⟩ : ∃ n : Nat, n = k + 1 := ⟨_, rfl⟩
  have hkn : (k : Int) + 1 = (n : Int) := by omega
  have hn1 : 1 ≤ n := by omega
  have hn20 : n ≤ 20 := by omega
  rw [← hnk] at hF
  have HF := hid hF
  clear hF
  have d1 : decide ((1 : Int) < (n : Int)) = false := decide_eq_false (by omega)
  have H0 := hid h0
  clear h0
  have HK := hid hnk
  clear hnk
  go_enter Tryd.func14, Tryd.ntmps14
  go_wp2_with fail
  refine (first_w bs w hB).mono ?_
  rintro e w1 ⟨rfl, b1⟩
  have E1 := hid (hB.below b1)
  have B1 := hid b1
  have L1 := hid (hl.below b1)
  clear hB b1 hl
  go_wp2_with fail
  refine (NumW.number_w a0 20 _ (by decide) (by decide) h1.1 h1.2).mono ?_
  rintro e w' ⟨rfl, rfl⟩
  rw [hk]
  clear hk h1
  have hma := made_w (n : Int) a len cap l w1 L1.out hn
  go_wp2_with fail
  refine hma.mono ?_
  rintro e w2 ⟨⟨ax, cx, rfl, hX⟩, b2⟩
  have HM := hid (show madeR (n : Int) l = madeR (n : Int) l from rfl)
  have bx := b2.trans ((Below.refl w2.heap.size w2).alloc (Nat.le_refl _) (.cells #[.int .i64 (madeR (n : Int) l).ep, .slice ax (madeR (n : Int) l).rs.length cx] 98) |>.mono b2.size)
  have E2 := hid (E1.out.below bx)
  have B2 := hid (B1.out.trans (bx.mono B1.out.size))
  have X2 := hid (hX.below ((Below.refl w2.heap.size w2).alloc (Nat.le_refl _) (.cells #[.int .i64 (madeR (n : Int) l).ep, .slice ax (madeR (n : Int) l).rs.length cx] 98)))
  obtain ⟨x0, x1⟩ := new2 w2 (.int .i64 (madeR (n : Int) l).ep) (.slice ax (madeR (n : Int) l).rs.length cx) 98
  clear hma hX b2 bx E1 B1 L1
  go_wp2_with fail
  generalize w2.alloc (.cells #[.int .i64 (madeR (n : Int) l).ep, .slice ax (madeR (n : Int) l).rs.length cx] 98) = w3 at *
  refine (bytes_any bs _ (madeR (n : Int) l) ax _ cx w3 X2.out (E2.out.sub (by decide)) (sums _ _)).mono ?_
  rintro e w4 ⟨⟨v, u, rfl, ⟨rfl, _⟩ | ⟨hg, _⟩⟩, b4⟩
  rotate_left
  · exact absurd ((good_iff _).2 HF.out.g) hg
  replace x0 := kept b4 x0
  replace x1 := kept b4 x1
  have E4 := hid ((E2.out.below b4).mono (B2.out.trans (b4.mono B2.out.size)).size)
  have B4 := hid (B2.out.trans (b4.mono B2.out.size))
  have X4 := hid (X2.out.below b4)
  have hx0 := hid x0
  have hx1 := hid x1
  clear b4 X2 E2 x0 x1 B2
  go_wp2_with fail
  refine (new_w 300 w4 (by decide) (by decide)).mono ?_
  rintro e w7 ⟨rfl, h5, b5, z5⟩
  have B5 := hid b5
  have H5 := hid h5
  clear h5 b5 z5
  go_wp2_with fail
  have hE : Elder (Dv.new 300) 75 n := Elder.new 300 75 n
  have hblk : (Dv.new 300).blocks = 300 := rfl
  have hcal : (Dv.new 300).calls ≤ 3 := Nat.zero_le _
  generalize Dv.new 300 = D at *
  have hm0 : ∃ m, m = mp w4.heap.size := ⟨_, rfl⟩
  have H7 := hid (H5.out.mono (n' := 8) (lo' := w4.heap.size) (by decide) (Nat.le_refl _))
  have B7 := B5
  clear H5 B5
  generalize mp w4.heap.size = m at *
  clear hm0
  have HE := hid hE
  clear hE
  have har := arm_w _ _ _ _ D 3 w7 H7.out (by decide)
  have HO7 := hid H7.out.own_lo
  simp only [Int.cast_ofNat_Int] at har
  refine har.mono ?_
  rintro e w8 ⟨rfl, h8, t8⟩
  have B8 := hid (B7.out.trans (t8.below B7.out.size (fun x hx => HO7.out x (by rw [List.mem_singleton.1 hx]; exact List.mem_cons_self))))
  have hx0' := kept B8.out hx0.out
  have hx1' := kept B8.out hx1.out
  have hsv := save_w bs _ _ _ _ { D with fuse := 3 } n (madeR (n : Int) l).rs ax cx w8 h8 (E4.out.below B8.out) (by show 300 ≤ D.blocks; omega) (by show D.blocks ≤ 6000; omega) (X4.out.below B8.out) HF.out.g HF.out.s (by decide) (by show D.np < 10000; rw [HE.out.idle.np]; decide) (by show D.calls < 900000; omega) (by show 3 ≤ 1000000; decide)
  rw [show GeoW.half ({ D with fuse := 3 } : Dv).blocks = 75 by show GeoW.half D.blocks = 75; rw [hblk]; exact HH, save_cut HE.out.idle] at hsv
  have HNP := hid HE.out.idle.np
  rw [show ({ D with fuse := 3 } : Dv).np = 0 from HE.out.idle.np] at hsv
  clear har h8 t8 B7 H7
  go_wp2_with fail
  refine hsv.mono ?_
  rintro e w9 ⟨⟨v9, ⟨xe, hxe, rfl⟩, rfl⟩, p9, hp9, h9, t9⟩
  have B9 := hid (B8.out.trans (t9.below B8.out.size HO7.out))
  have H9 := hid h9
  generalize ({ m with p := p9 } : Mp) = m9 at *
  clear hsv h9 t9 hp9 B8 hx0' hx1'
  have hB9 : ∀ z : TypeId, Below w9.heap.size w9 (w9.alloc (.cells #[.int .i64 0, .int .i64 1] z)) := fun z => (Below.refl _ w9).alloc (Nat.le_refl _) _
  have hcr := crash_w _ _ _ _ (cut D 75 n (enc (madeR (n : Int) l))) (some ⟨w9.heap.size, 0, none⟩) 2 2 [0, 1] (w9.alloc (.cells #[.int .i64 0, .int .i64 1] 3)) (H9.out.below (hB9 _)) (fun w' t => Is.turn (is_two w9 0 1 3) t (fun b o e hm => by cases e; have := H9.out.olds _ hm; omega)) (by show (cut D 75 n (enc (madeR (n : Int) l))).np ≤ 1000; have h1 := DevL.put_np_le D ((n % 2 : Nat) : Int) (enc (madeR (n : Int) l)); have h2 := DevL.put_np_le (D.put ((n % 2 : Nat) : Int) (enc (madeR (n : Int) l))) ((n % 2 + 75 : Nat) : Int) (enc (madeR (n : Int) l)); have h3 := HNP.out; show ((D.put ((n % 2 : Nat) : Int) (enc (madeR (n : Int) l))).put ((n % 2 + 75 : Nat) : Int) (enc (madeR (n : Int) l))).np ≤ 1000; omega) (by decide)
  have HB9 := hid (hB9 3)
  have HO9 := hid H9.out.own_lo
  clear hB9
  go_wp2_with fail
  refine hcr.mono ?_
  rintro e w10 ⟨rfl, ks, p10, hK, hp10, h10, t10⟩
  have HFL := hid (fell_is HE.out.idle (show 0 < 75 by decide) HF.out.bytes true hK)
  have B10 := hid ((B9.out.trans (HB9.out.mono B9.out.size)).trans (t10.below (Nat.le_trans B9.out.size HB9.out.size) HO9.out))
  have hnp2 : (cut D 75 n (enc (madeR (n : Int) l))).np ≤ 2 := by
    have h1 := DevL.put_np_le D ((n % 2 : Nat) : Int) (enc (madeR (n : Int) l))
    have h2 := DevL.put_np_le (D.put ((n % 2 : Nat) : Int) (enc (madeR (n : Int) l))) ((n % 2 + 75 : Nat) : Int) (enc (madeR (n : Int) l))
    have h3 := HNP.out
    show ((D.put ((n % 2 : Nat) : Int) (enc (madeR (n : Int) l))).put ((n % 2 + 75 : Nat) : Int) (enc (madeR (n : Int) l))).np ≤ 2
    omega
  have H10 := hid (h10.mono (n' := 100) (lo' := w4.heap.size) (by omega) (Nat.le_refl _))
  have hbE : ((cut D 75 n (enc (madeR (n : Int) l))).crash ks [0, 1]).blocks = 300 := by exact HFL.out.blocks.trans hblk
  have hcE : ((cut D 75 n (enc (madeR (n : Int) l))).crash ks [0, 1]).calls ≤ 10 := by have := HFL.out.calls; show (fell D 75 n (enc (madeR (n : Int) l)) true ks).calls ≤ 10; omega
  have HFL2 := hid (show Fell D ((cut D 75 n (enc (madeR (n : Int) l))).crash ks [0, 1]) (keptAt 75 n true) (enc (madeR (n : Int) l)) from HFL.out)
  clear hcr hK t10 h10 hp10 HFL B9 HB9 HO9 H9
  generalize (cut D 75 n (enc (madeR (n : Int) l))).crash ks [0, 1] = Z at *
  generalize ({ m9 with p := p10 } : Mp) = m10 at *
  have hep : ((madeR (n : Int) l).ep.toNat) = n := Int.toNat_natCast n
  have HBE := hid (HFL2.out.best HF.out (show (madeR (n : Int) l).ep = (n : Int) from rfl) HE.out)
  have HCO := hid (HFL2.out.copies (show 0 < 75 by decide) HF.out (show (madeR (n : Int) l).ep = (n : Int) from rfl) HE.out)
  have HAG := hid (HFL2.out.again HF.out (show (madeR (n : Int) l).ep = (n : Int) from rfl) HE.out)
  have hlo := load_w bs _ _ _ _ Z w10 H10.out (E4.out.below B10.out) HFL2.out.idle.down (by omega) (by omega) HFL2.out.idle.bytes
  rw [hbE, HH, HBE.out] at hlo
  go_wp2_with fail
  refine hlo.mono ?_
  rintro e w13 ⟨⟨ar, cr, rfl, hR⟩, b13⟩
  rw [decide_eq_true HF.out.ep.1]
  have bA := (Below.refl w13.heap.size w13).alloc (Nat.le_refl _) (.cells #[.int .i64 (madeR (n : Int) l).ep, .slice ar (madeR (n : Int) l).rs.length cr] 98)
  obtain ⟨r0, r1⟩ := new2 w13 (.int .i64 (madeR (n : Int) l).ep) (.slice ar (madeR (n : Int) l).rs.length cr) 98
  have B14 := hid (B10.out.trans ((b13.trans (bA.mono b13.size)).mono B10.out.size))
  have H14 := hid ((H10.out.below b13).below bA)
  have A14 := hid (hR.below bA)
  clear hlo b13 hR bA
  go_wp2_with fail
  generalize w13.alloc (.cells #[.int .i64 (madeR (n : Int) l).ep, .slice ar (madeR (n : Int) l).rs.length cr] 98) = w14 at *
  have hco := copies_w bs _ _ _ _ Z w14 H14.out (E4.out.below B14.out) HFL2.out.idle.down (by omega) (by omega) HFL2.out.idle.bytes n (by rw [hbE, HH, HBE.out]; rfl) (by omega) (by omega)
  rw [hbE, HH, HCO.out] at hco
  simp only [Int.cast_ofNat_Int] at hco
  refine hco.mono ?_
  rintro e w15 ⟨rfl, b15⟩
  replace r0 := kept b15 r0
  replace r1 := kept b15 r1
  have B15 := hid (B14.out.trans (b15.mono B14.out.size))
  have H15 := hid (H14.out.below b15)
  have A15 := hid (A14.out.below b15)
  have hx0' := kept B15.out hx0.out
  have hx1' := kept B15.out hx1.out
  have hsm := same_w (madeR (n : Int) l) (madeR (n : Int) l) ar ax cr cx w15 A15.out (X4.out.below B15.out)
  rw [decide_eq_true (show (madeR (n : Int) l) = (madeR (n : Int) l) from rfl)] at hsm
  clear hco b15 H14 A14 B14
  go_wp2_with fail
  refine hsm.mono ?_
  rintro e w16 ⟨rfl, b16⟩
  replace r0 := kept b16 r0
  replace r1 := kept b16 r1
  have B16 := hid (B15.out.trans (b16.mono B15.out.size))
  have H16 := hid (H15.out.below b16)
  have A16 := hid (A15.out.below b16)
  clear hsm b16 H15 A15 B15 hx0' hx1'
  have hs2 := save_good bs _ _ _ _ Z (madeR (n : Int) l) ar cr w16 H16.out HFL2.out.idle (E4.out.below B16.out) (by omega) (by omega) A16.out HF.out.g HF.out.s (by decide) (by omega)
  rw [hbE, HH, hep] at hs2
  have HO16 := hid H16.out.own_lo
  go_wp2_with fail
  refine hs2.mono ?_
  rintro e w17 ⟨rfl, m17, h17, t17, _⟩
  have B17 := hid (B16.out.trans (t17.below B16.out.size HO16.out))
  have H17 := hid h17
  have hb5 : (Z.saved 75 n (enc (madeR (n : Int) l))).blocks = 300 := hbE
  generalize Z.saved 75 n (enc (madeR (n : Int) l)) = Y at *
  clear hs2 t17 h17 r0 r1 H16 A16 B16 HO16
  obtain ⟨hI5, hB5, hC5⟩ := HAG.out
  have hco := copies_w bs _ _ _ _ Y w17 H17.out (E4.out.below B17.out) hI5.down (by omega) (by omega) hI5.bytes n (by rw [hb5, HH, hB5]; rfl) (by omega) (by omega)
  rw [hb5, HH, hC5] at hco
  simp only [Int.cast_ofNat_Int] at hco
  have HI5 := hid hI5
  have HB5 := hid hB5
  clear hI5 hB5 hC5
  go_wp2_with fail
  refine hco.mono ?_
  rintro e w18 ⟨rfl, b18⟩
  have B18 := hid (B17.out.trans (b18.mono B17.out.size))
  have H18 := hid (H17.out.below b18)
  have hlo := load_w bs _ _ _ _ Y w18 H18.out (E4.out.below B18.out) HI5.out.down (by omega) (by omega) HI5.out.bytes
  rw [hb5, HH, HB5.out] at hlo
  clear hco b18 H17 B17
  go_wp2_with fail
  refine hlo.mono ?_
  rintro e w19 ⟨⟨au, cs, rfl, hS⟩, b19⟩
  rw [decide_eq_true HF.out.ep.1]
  have bA := (Below.refl w19.heap.size w19).alloc (Nat.le_refl _) (.cells #[.int .i64 (madeR (n : Int) l).ep, .slice au (madeR (n : Int) l).rs.length cs] 98)
  obtain ⟨r0, r1⟩ := new2 w19 (.int .i64 (madeR (n : Int) l).ep) (.slice au (madeR (n : Int) l).rs.length cs) 98
  have B20 := hid (B18.out.trans ((b19.trans (bA.mono b19.size)).mono B18.out.size))
  have S20 := hid (hS.below bA)
  have hx0' := kept B20.out hx0.out
  have hx1' := kept B20.out hx1.out
  clear hlo b19 hS bA H18 B18
  go_wp2_with fail
  generalize w19.alloc (.cells #[.int .i64 (madeR (n : Int) l).ep, .slice au (madeR (n : Int) l).rs.length cs] 98) = w20 at *
  have hsm := same_w (madeR (n : Int) l) (madeR (n : Int) l) au ax cs cx w20 S20.out (X4.out.below B20.out)
  rw [decide_eq_true (show (madeR (n : Int) l) = (madeR (n : Int) l) from rfl)] at hsm
  refine hsm.mono ?_
  rintro e w21 ⟨rfl, b21⟩
  have B21 := hid (B20.out.trans (b21.mono B20.out.size))
  clear hsm b21 r0 r1 hx0' hx1'
  go_wp2_with fail
  go_ret
  exact ⟨rfl, B4.out.trans (B21.out.mono B4.out.size)⟩
set_option maxHeartbeats 6400000 in
theorem second1 (a0 : Int) (a : Option Addr) (len cap : Nat) (l : List Int) (bs : List Addr) (w : World) (hB : Ev w w.heap.size bs six) (hl : Is w a len cap l) (hn : len ≤ 1000000000) (h1 : -9223372036854775808 ≤ a0 ∧ a0 ≤ 9223372036854775807) (k : Nat) (hk : a0 % 20 = (k : Int)) (hk20 : k < 20) (hF : Fine (madeR ((k + 1 : Nat) : Int) l)) (h0 : 0 < k) :
    Calls Tryd.prog 14 #[.int .i64 a0, .bool true, .slice a len cap] w fun e w' => e = .returned (.bool true) ∧ Below w.heap.size w w' := by
  obtain ⟨n, hnk⟩ : ∃ n : Nat, n = k + 1 := ⟨_, rfl⟩
  have hkn : (k : Int) + 1 = (n : Int) := by omega
  have hn1 : 1 ≤ n := by omega
  have hn20 : n ≤ 20 := by omega
  rw [← hnk] at hF
  have HF := hid hF
  clear hF
  have d1 : decide ((1 : Int) < (n : Int)) = true := decide_eq_true (by omega)
  have H0 := hid h0
  clear h0
  have HK := hid hnk
  clear hnk
  go_enter Tryd.func14, Tryd.ntmps14
  go_wp2_with fail
  refine (first_w bs w hB).mono ?_
  rintro e w1 ⟨rfl, b1⟩
  have E1 := hid (hB.below b1)
  have B1 := hid b1
  have L1 := hid (hl.below b1)
  clear hB b1 hl
  go_wp2_with fail
  refine (NumW.number_w a0 20 _ (by decide) (by decide) h1.1 h1.2).mono ?_
  rintro e w' ⟨rfl, rfl⟩
  rw [hk]
  clear hk h1
  have hma := made_w (n : Int) a len cap l w1 L1.out hn
  go_wp2_with fail
  refine hma.mono ?_
  rintro e w2 ⟨⟨ax, cx, rfl, hX⟩, b2⟩
  have HM := hid (show madeR (n : Int) l = madeR (n : Int) l from rfl)
  have bx := b2.trans ((Below.refl w2.heap.size w2).alloc (Nat.le_refl _) (.cells #[.int .i64 (madeR (n : Int) l).ep, .slice ax (madeR (n : Int) l).rs.length cx] 98) |>.mono b2.size)
  have E2 := hid (E1.out.below bx)
  have B2 := hid (B1.out.trans (bx.mono B1.out.size))
  have X2 := hid (hX.below ((Below.refl w2.heap.size w2).alloc (Nat.le_refl _) (.cells #[.int .i64 (madeR (n : Int) l).ep, .slice ax (madeR (n : Int) l).rs.length cx] 98)))
  obtain ⟨x0, x1⟩ := new2 w2 (.int .i64 (madeR (n : Int) l).ep) (.slice ax (madeR (n : Int) l).rs.length cx) 98
  clear hma hX b2 bx E1 B1 L1
  go_wp2_with fail
  generalize w2.alloc (.cells #[.int .i64 (madeR (n : Int) l).ep, .slice ax (madeR (n : Int) l).rs.length cx] 98) = w3 at *
  refine (bytes_any bs _ (madeR (n : Int) l) ax _ cx w3 X2.out (E2.out.sub (by decide)) (sums _ _)).mono ?_
  rintro e w4 ⟨⟨v, u, rfl, ⟨rfl, _⟩ | ⟨hg, _⟩⟩, b4⟩
  rotate_left
  · exact absurd ((good_iff _).2 HF.out.g) hg
  replace x0 := kept b4 x0
  replace x1 := kept b4 x1
  have E4 := hid ((E2.out.below b4).mono (B2.out.trans (b4.mono B2.out.size)).size)
  have B4 := hid (B2.out.trans (b4.mono B2.out.size))
  have X4 := hid (X2.out.below b4)
  have hx0 := hid x0
  have hx1 := hid x1
  clear b4 X2 E2 x0 x1 B2
  go_wp2_with fail
  refine (new_w 300 w4 (by decide) (by decide)).mono ?_
  rintro e w5 ⟨rfl, h5, b5, z5⟩
  have B5 := hid b5
  have H5 := hid h5
  clear h5 b5 z5
  go_wp2_with fail
  have hFp : Fine (madeR (k : Int) [9]) := ⟨(good_iff _).1 (by have h0 := H0.out; unfold amiss badE badR madeR; simp [refOf]; omega), sums _ _⟩
  have hE : Elder ((Dv.new 300).saved 75 k (enc (madeR (k : Int) [9]))) 75 n := by rw [HK.out]; exact Elder.one 300 75 k (by decide) hFp rfl
  have hkn' : (n : Int) - 1 = (k : Int) := by omega
  have HP := hid hFp
  have hmb := made_w (k : Int) _ 1 1 [9] _ (is_one w5 9 3) (by decide)
  clear hFp
  simp only [hkn']
  refine hmb.mono ?_
  rintro e w6 ⟨⟨ay, cy, rfl, hY⟩, b6⟩
  have b6' := (Below.refl w5.heap.size w5).alloc (Nat.le_refl _) (.cells #[.int .i64 9] 3) |>.trans (b6.mono (by simp))
  have h6 := H5.out.below b6'
  have B6 := hid (B5.out.trans (b6'.mono B5.out.size))
  have hs := save_good bs _ _ _ _ _ (madeR (k : Int) [9]) ay cy w6 h6 (Dv.Idle.new 300) (E4.out.below B6.out) (by decide) (by decide) hY HP.out.g HP.out.s (by decide) (by decide)
  have HO6 := hid h6.own_lo
  rw [show (Dv.new 300).blocks = 300 from rfl, HH, show (madeR (k : Int) [9]).ep.toNat = k from Int.toNat_natCast k] at hs
  clear hmb hY b6 b6' h6 H5 B5
  go_wp2_with fail
  refine hs.mono ?_
  rintro e w7 ⟨rfl, m, h7, t7, _⟩
  have B7 := hid (B6.out.trans (t7.below B6.out.size HO6.out))
  have H7 := hid (h7.mono (n' := 8) (lo' := w4.heap.size) (by decide) (Nat.le_refl _))
  have hblk : ((Dv.new 300).saved 75 k (enc (madeR (k : Int) [9]))).blocks = 300 := rfl
  have hcal : ((Dv.new 300).saved 75 k (enc (madeR (k : Int) [9]))).calls ≤ 3 := Nat.le_refl _
  clear hs h7 t7 B6 HO6
  generalize (Dv.new 300).saved 75 k (enc (madeR (k : Int) [9])) = D at *
  go_wp2_with fail
  have HE := hid hE
  clear hE
  have har := arm_w _ _ _ _ D 3 w7 H7.out (by decide)
  have HO7 := hid H7.out.own_lo
  simp only [Int.cast_ofNat_Int] at har
  refine har.mono ?_
  rintro e w8 ⟨rfl, h8, t8⟩
  have B8 := hid (B7.out.trans (t8.below B7.out.size (fun x hx => HO7.out x (by rw [List.mem_singleton.1 hx]; exact List.mem_cons_self))))
  have hx0' := kept B8.out hx0.out
  have hx1' := kept B8.out hx1.out
  have hsv := save_w bs _ _ _ _ { D with fuse := 3 } n (madeR (n : Int) l).rs ax cx w8 h8 (E4.out.below B8.out) (by show 300 ≤ D.blocks; omega) (by show D.blocks ≤ 6000; omega) (X4.out.below B8.out) HF.out.g HF.out.s (by decide) (by show D.np < 10000; rw [HE.out.idle.np]; decide) (by show D.calls < 900000; omega) (by show 3 ≤ 1000000; decide)
  rw [show GeoW.half ({ D with fuse := 3 } : Dv).blocks = 75 by show GeoW.half D.blocks = 75; rw [hblk]; exact HH, save_cut HE.out.idle] at hsv
  have HNP := hid HE.out.idle.np
  rw [show ({ D with fuse := 3 } : Dv).np = 0 from HE.out.idle.np] at hsv
  clear har h8 t8 B7 H7
  go_wp2_with fail
  refine hsv.mono ?_
  rintro e w9 ⟨⟨v9, ⟨xe, hxe, rfl⟩, rfl⟩, p9, hp9, h9, t9⟩
  have B9 := hid (B8.out.trans (t9.below B8.out.size HO7.out))
  have H9 := hid h9
  generalize ({ m with p := p9 } : Mp) = m9 at *
  clear hsv h9 t9 hp9 B8 hx0' hx1'
  have hB9 : ∀ z : TypeId, Below w9.heap.size w9 (w9.alloc (.cells #[.int .i64 0, .int .i64 1] z)) := fun z => (Below.refl _ w9).alloc (Nat.le_refl _) _
  have hcr := crash_w _ _ _ _ (cut D 75 n (enc (madeR (n : Int) l))) (some ⟨w9.heap.size, 0, none⟩) 2 2 [0, 1] (w9.alloc (.cells #[.int .i64 0, .int .i64 1] 3)) (H9.out.below (hB9 _)) (fun w' t => Is.turn (is_two w9 0 1 3) t (fun b o e hm => by cases e; have := H9.out.olds _ hm; omega)) (by show (cut D 75 n (enc (madeR (n : Int) l))).np ≤ 1000; have h1 := DevL.put_np_le D ((n % 2 : Nat) : Int) (enc (madeR (n : Int) l)); have h2 := DevL.put_np_le (D.put ((n % 2 : Nat) : Int) (enc (madeR (n : Int) l))) ((n % 2 + 75 : Nat) : Int) (enc (madeR (n : Int) l)); have h3 := HNP.out; show ((D.put ((n % 2 : Nat) : Int) (enc (madeR (n : Int) l))).put ((n % 2 + 75 : Nat) : Int) (enc (madeR (n : Int) l))).np ≤ 1000; omega) (by decide)
  have HB9 := hid (hB9 3)
  have HO9 := hid H9.out.own_lo
  clear hB9
  go_wp2_with fail
  refine hcr.mono ?_
  rintro e w10 ⟨rfl, ks, p10, hK, hp10, h10, t10⟩
  have HFL := hid (fell_is HE.out.idle (show 0 < 75 by decide) HF.out.bytes true hK)
  have B10 := hid ((B9.out.trans (HB9.out.mono B9.out.size)).trans (t10.below (Nat.le_trans B9.out.size HB9.out.size) HO9.out))
  have hnp2 : (cut D 75 n (enc (madeR (n : Int) l))).np ≤ 2 := by
    have h1 := DevL.put_np_le D ((n % 2 : Nat) : Int) (enc (madeR (n : Int) l))
    have h2 := DevL.put_np_le (D.put ((n % 2 : Nat) : Int) (enc (madeR (n : Int) l))) ((n % 2 + 75 : Nat) : Int) (enc (madeR (n : Int) l))
    have h3 := HNP.out
    show ((D.put ((n % 2 : Nat) : Int) (enc (madeR (n : Int) l))).put ((n % 2 + 75 : Nat) : Int) (enc (madeR (n : Int) l))).np ≤ 2
    omega
  have H10 := hid (h10.mono (n' := 100) (lo' := w4.heap.size) (by omega) (Nat.le_refl _))
  have hbE : ((cut D 75 n (enc (madeR (n : Int) l))).crash ks [0, 1]).blocks = 300 := by exact HFL.out.blocks.trans hblk
  have hcE : ((cut D 75 n (enc (madeR (n : Int) l))).crash ks [0, 1]).calls ≤ 10 := by have := HFL.out.calls; show (fell D 75 n (enc (madeR (n : Int) l)) true ks).calls ≤ 10; omega
  have HFL2 := hid (show Fell D ((cut D 75 n (enc (madeR (n : Int) l))).crash ks [0, 1]) (keptAt 75 n true) (enc (madeR (n : Int) l)) from HFL.out)
  clear hcr hK t10 h10 hp10 HFL B9 HB9 HO9 H9
  generalize (cut D 75 n (enc (madeR (n : Int) l))).crash ks [0, 1] = Z at *
  generalize ({ m9 with p := p10 } : Mp) = m10 at *
  have hep : ((madeR (n : Int) l).ep.toNat) = n := Int.toNat_natCast n
  have HBE := hid (HFL2.out.best HF.out (show (madeR (n : Int) l).ep = (n : Int) from rfl) HE.out)
  have HCO := hid (HFL2.out.copies (show 0 < 75 by decide) HF.out (show (madeR (n : Int) l).ep = (n : Int) from rfl) HE.out)
  have HAG := hid (HFL2.out.again HF.out (show (madeR (n : Int) l).ep = (n : Int) from rfl) HE.out)
  have hlo := load_w bs _ _ _ _ Z w10 H10.out (E4.out.below B10.out) HFL2.out.idle.down (by omega) (by omega) HFL2.out.idle.bytes
  rw [hbE, HH, HBE.out] at hlo
  go_wp2_with fail
  refine hlo.mono ?_
  rintro e w13 ⟨⟨ar, cr, rfl, hR⟩, b13⟩
  rw [decide_eq_true HF.out.ep.1]
  have bA := (Below.refl w13.heap.size w13).alloc (Nat.le_refl _) (.cells #[.int .i64 (madeR (n : Int) l).ep, .slice ar (madeR (n : Int) l).rs.length cr] 98)
  obtain ⟨r0, r1⟩ := new2 w13 (.int .i64 (madeR (n : Int) l).ep) (.slice ar (madeR (n : Int) l).rs.length cr) 98
  have B14 := hid (B10.out.trans ((b13.trans (bA.mono b13.size)).mono B10.out.size))
  have H14 := hid ((H10.out.below b13).below bA)
  have A14 := hid (hR.below bA)
  clear hlo b13 hR bA
  go_wp2_with fail
  generalize w13.alloc (.cells #[.int .i64 (madeR (n : Int) l).ep, .slice ar (madeR (n : Int) l).rs.length cr] 98) = w14 at *
  have hco := copies_w bs _ _ _ _ Z w14 H14.out (E4.out.below B14.out) HFL2.out.idle.down (by omega) (by omega) HFL2.out.idle.bytes n (by rw [hbE, HH, HBE.out]; rfl) (by omega) (by omega)
  rw [hbE, HH, HCO.out] at hco
  simp only [Int.cast_ofNat_Int] at hco
  refine hco.mono ?_
  rintro e w15 ⟨rfl, b15⟩
  replace r0 := kept b15 r0
  replace r1 := kept b15 r1
  have B15 := hid (B14.out.trans (b15.mono B14.out.size))
  have H15 := hid (H14.out.below b15)
  have A15 := hid (A14.out.below b15)
  have hx0' := kept B15.out hx0.out
  have hx1' := kept B15.out hx1.out
  have hsm := same_w (madeR (n : Int) l) (madeR (n : Int) l) ar ax cr cx w15 A15.out (X4.out.below B15.out)
  rw [decide_eq_true (show (madeR (n : Int) l) = (madeR (n : Int) l) from rfl)] at hsm
  clear hco b15 H14 A14 B14
  go_wp2_with fail
  refine hsm.mono ?_
  rintro e w16 ⟨rfl, b16⟩
  replace r0 := kept b16 r0
  replace r1 := kept b16 r1
  have B16 := hid (B15.out.trans (b16.mono B15.out.size))
  have H16 := hid (H15.out.below b16)
  have A16 := hid (A15.out.below b16)
  clear hsm b16 H15 A15 B15 hx0' hx1'
  have hs2 := save_good bs _ _ _ _ Z (madeR (n : Int) l) ar cr w16 H16.out HFL2.out.idle (E4.out.below B16.out) (by omega) (by omega) A16.out HF.out.g HF.out.s (by decide) (by omega)
  rw [hbE, HH, hep] at hs2
  have HO16 := hid H16.out.own_lo
  go_wp2_with fail
  refine hs2.mono ?_
  rintro e w17 ⟨rfl, m17, h17, t17, _⟩
  have B17 := hid (B16.out.trans (t17.below B16.out.size HO16.out))
  have H17 := hid h17
  have hb5 : (Z.saved 75 n (enc (madeR (n : Int) l))).blocks = 300 := hbE
  generalize Z.saved 75 n (enc (madeR (n : Int) l)) = Y at *
  clear hs2 t17 h17 r0 r1 H16 A16 B16 HO16
  obtain ⟨hI5, hB5, hC5⟩ := HAG.out
  have hco := copies_w bs _ _ _ _ Y w17 H17.out (E4.out.below B17.out) hI5.down (by omega) (by omega) hI5.bytes n (by rw [hb5, HH, hB5]; rfl) (by omega) (by omega)
  rw [hb5, HH, hC5] at hco
  simp only [Int.cast_ofNat_Int] at hco
  have HI5 := hid hI5
  have HB5 := hid hB5
  clear hI5 hB5 hC5
  go_wp2_with fail
  refine hco.mono ?_
  rintro e w18 ⟨rfl, b18⟩
  have B18 := hid (B17.out.trans (b18.mono B17.out.size))
  have H18 := hid (H17.out.below b18)
  have hlo := load_w bs _ _ _ _ Y w18 H18.out (E4.out.below B18.out) HI5.out.down (by omega) (by omega) HI5.out.bytes
  rw [hb5, HH, HB5.out] at hlo
  clear hco b18 H17 B17
  go_wp2_with fail
  refine hlo.mono ?_
  rintro e w19 ⟨⟨au, cs, rfl, hS⟩, b19⟩
  rw [decide_eq_true HF.out.ep.1]
  have bA := (Below.refl w19.heap.size w19).alloc (Nat.le_refl _) (.cells #[.int .i64 (madeR (n : Int) l).ep, .slice au (madeR (n : Int) l).rs.length cs] 98)
  obtain ⟨r0, r1⟩ := new2 w19 (.int .i64 (madeR (n : Int) l).ep) (.slice au (madeR (n : Int) l).rs.length cs) 98
  have B20 := hid (B18.out.trans ((b19.trans (bA.mono b19.size)).mono B18.out.size))
  have S20 := hid (hS.below bA)
  have hx0' := kept B20.out hx0.out
  have hx1' := kept B20.out hx1.out
  clear hlo b19 hS bA H18 B18
  go_wp2_with fail
  generalize w19.alloc (.cells #[.int .i64 (madeR (n : Int) l).ep, .slice au (madeR (n : Int) l).rs.length cs] 98) = w20 at *
  have hsm := same_w (madeR (n : Int) l) (madeR (n : Int) l) au ax cs cx w20 S20.out (X4.out.below B20.out)
  rw [decide_eq_true (show (madeR (n : Int) l) = (madeR (n : Int) l) from rfl)] at hsm
  refine hsm.mono ?_
  rintro e w21 ⟨rfl, b21⟩
  have B21 := hid (B20.out.trans (b21.mono B20.out.size))
  clear hsm b21 r0 r1 hx0' hx1'
  go_wp2_with fail
  go_ret
  exact ⟨rfl, B4.out.trans (B21.out.mono B4.out.size)⟩
set_option maxHeartbeats 6400000 in
theorem first0 (a0 : Int) (a : Option Addr) (len cap : Nat) (l : List Int) (bs : List Addr) (w : World) (hB : Ev w w.heap.size bs six) (hl : Is w a len cap l) (hn : len ≤ 1000000000) (h1 : -9223372036854775808 ≤ a0 ∧ a0 ≤ 9223372036854775807) (k : Nat) (hk : a0 % 20 = (k : Int)) (hk20 : k < 20) (hF : Fine (madeR ((k + 1 : Nat) : Int) l)) (h0 : k = 0) :
    Calls Tryd.prog 14 #[.int .i64 a0, .bool false, .slice a len cap] w fun e w' => e = .returned (.bool true) ∧ Below w.heap.size w w' := by
  obtain ⟨n, hnk⟩ : ∃ n : Nat, n = k + 1 := ⟨_, rfl⟩
  have hkn : (k : Int) + 1 = (n : Int) := by omega
  have hn1 : 1 ≤ n := by omega
  have hn20 : n ≤ 20 := by omega
  rw [← hnk] at hF
  have HF := hid hF
  clear hF
  have d1 : decide ((1 : Int) < (n : Int)) = false := decide_eq_false (by omega)
  have H0 := hid h0
  clear h0
  have HK := hid hnk
  clear hnk
  go_enter Tryd.func14, Tryd.ntmps14
  go_wp2_with fail
  refine (first_w bs w hB).mono ?_
  rintro e w1 ⟨rfl, b1⟩
  have E1 := hid (hB.below b1)
  have B1 := hid b1
  have L1 := hid (hl.below b1)
  clear hB b1 hl
  go_wp2_with fail
  refine (NumW.number_w a0 20 _ (by decide) (by decide) h1.1 h1.2).mono ?_
  rintro e w' ⟨rfl, rfl⟩
  rw [hk]
  clear hk h1
  have hma := made_w (n : Int) a len cap l w1 L1.out hn
  go_wp2_with fail
  refine hma.mono ?_
  rintro e w2 ⟨⟨ax, cx, rfl, hX⟩, b2⟩
  have HM := hid (show madeR (n : Int) l = madeR (n : Int) l from rfl)
  have bx := b2.trans ((Below.refl w2.heap.size w2).alloc (Nat.le_refl _) (.cells #[.int .i64 (madeR (n : Int) l).ep, .slice ax (madeR (n : Int) l).rs.length cx] 98) |>.mono b2.size)
  have E2 := hid (E1.out.below bx)
  have B2 := hid (B1.out.trans (bx.mono B1.out.size))
  have X2 := hid (hX.below ((Below.refl w2.heap.size w2).alloc (Nat.le_refl _) (.cells #[.int .i64 (madeR (n : Int) l).ep, .slice ax (madeR (n : Int) l).rs.length cx] 98)))
  obtain ⟨x0, x1⟩ := new2 w2 (.int .i64 (madeR (n : Int) l).ep) (.slice ax (madeR (n : Int) l).rs.length cx) 98
  clear hma hX b2 bx E1 B1 L1
  go_wp2_with fail
  generalize w2.alloc (.cells #[.int .i64 (madeR (n : Int) l).ep, .slice ax (madeR (n : Int) l).rs.length cx] 98) = w3 at *
  refine (bytes_any bs _ (madeR (n : Int) l) ax _ cx w3 X2.out (E2.out.sub (by decide)) (sums _ _)).mono ?_
  rintro e w4 ⟨⟨v, u, rfl, ⟨rfl, _⟩ | ⟨hg, _⟩⟩, b4⟩
  rotate_left
  · exact absurd ((good_iff _).2 HF.out.g) hg
  replace x0 := kept b4 x0
  replace x1 := kept b4 x1
  have E4 := hid ((E2.out.below b4).mono (B2.out.trans (b4.mono B2.out.size)).size)
  have B4 := hid (B2.out.trans (b4.mono B2.out.size))
  have X4 := hid (X2.out.below b4)
  have hx0 := hid x0
  have hx1 := hid x1
  clear b4 X2 E2 x0 x1 B2
  go_wp2_with fail
  refine (new_w 300 w4 (by decide) (by decide)).mono ?_
  rintro e w7 ⟨rfl, h5, b5, z5⟩
  have B5 := hid b5
  have H5 := hid h5
  clear h5 b5 z5
  go_wp2_with fail
  have hE : Elder (Dv.new 300) 75 n := Elder.new 300 75 n
  have hblk : (Dv.new 300).blocks = 300 := rfl
  have hcal : (Dv.new 300).calls ≤ 3 := Nat.zero_le _
  generalize Dv.new 300 = D at *
  have hm0 : ∃ m, m = mp w4.heap.size := ⟨_, rfl⟩
  have H7 := hid (H5.out.mono (n' := 8) (lo' := w4.heap.size) (by decide) (Nat.le_refl _))
  have B7 := B5
  clear H5 B5
  generalize mp w4.heap.size = m at *
  clear hm0
  have HE := hid hE
  clear hE
  have har := arm_w _ _ _ _ D 3 w7 H7.out (by decide)
  have HO7 := hid H7.out.own_lo
  simp only [Int.cast_ofNat_Int] at har
  refine har.mono ?_
  rintro e w8 ⟨rfl, h8, t8⟩
  have B8 := hid (B7.out.trans (t8.below B7.out.size (fun x hx => HO7.out x (by rw [List.mem_singleton.1 hx]; exact List.mem_cons_self))))
  have hx0' := kept B8.out hx0.out
  have hx1' := kept B8.out hx1.out
  have hsv := save_w bs _ _ _ _ { D with fuse := 3 } n (madeR (n : Int) l).rs ax cx w8 h8 (E4.out.below B8.out) (by show 300 ≤ D.blocks; omega) (by show D.blocks ≤ 6000; omega) (X4.out.below B8.out) HF.out.g HF.out.s (by decide) (by show D.np < 10000; rw [HE.out.idle.np]; decide) (by show D.calls < 900000; omega) (by show 3 ≤ 1000000; decide)
  rw [show GeoW.half ({ D with fuse := 3 } : Dv).blocks = 75 by show GeoW.half D.blocks = 75; rw [hblk]; exact HH, save_cut HE.out.idle] at hsv
  have HNP := hid HE.out.idle.np
  rw [show ({ D with fuse := 3 } : Dv).np = 0 from HE.out.idle.np] at hsv
  clear har h8 t8 B7 H7
  go_wp2_with fail
  refine hsv.mono ?_
  rintro e w9 ⟨⟨v9, ⟨xe, hxe, rfl⟩, rfl⟩, p9, hp9, h9, t9⟩
  have B9 := hid (B8.out.trans (t9.below B8.out.size HO7.out))
  have H9 := hid h9
  generalize ({ m with p := p9 } : Mp) = m9 at *
  clear hsv h9 t9 hp9 B8 hx0' hx1'
  have hB9 : ∀ z : TypeId, Below w9.heap.size w9 (w9.alloc (.cells #[.int .i64 1, .int .i64 0] z)) := fun z => (Below.refl _ w9).alloc (Nat.le_refl _) _
  have hcr := crash_w _ _ _ _ (cut D 75 n (enc (madeR (n : Int) l))) (some ⟨w9.heap.size, 0, none⟩) 2 2 [1, 0] (w9.alloc (.cells #[.int .i64 1, .int .i64 0] 3)) (H9.out.below (hB9 _)) (fun w' t => Is.turn (is_two w9 1 0 3) t (fun b o e hm => by cases e; have := H9.out.olds _ hm; omega)) (by show (cut D 75 n (enc (madeR (n : Int) l))).np ≤ 1000; have h1 := DevL.put_np_le D ((n % 2 : Nat) : Int) (enc (madeR (n : Int) l)); have h2 := DevL.put_np_le (D.put ((n % 2 : Nat) : Int) (enc (madeR (n : Int) l))) ((n % 2 + 75 : Nat) : Int) (enc (madeR (n : Int) l)); have h3 := HNP.out; show ((D.put ((n % 2 : Nat) : Int) (enc (madeR (n : Int) l))).put ((n % 2 + 75 : Nat) : Int) (enc (madeR (n : Int) l))).np ≤ 1000; omega) (by decide)
  have HB9 := hid (hB9 3)
  have HO9 := hid H9.out.own_lo
  clear hB9
  go_wp2_with fail
  refine hcr.mono ?_
  rintro e w10 ⟨rfl, ks, p10, hK, hp10, h10, t10⟩
  have HFL := hid (fell_is HE.out.idle (show 0 < 75 by decide) HF.out.bytes false hK)
  have B10 := hid ((B9.out.trans (HB9.out.mono B9.out.size)).trans (t10.below (Nat.le_trans B9.out.size HB9.out.size) HO9.out))
  have hnp2 : (cut D 75 n (enc (madeR (n : Int) l))).np ≤ 2 := by
    have h1 := DevL.put_np_le D ((n % 2 : Nat) : Int) (enc (madeR (n : Int) l))
    have h2 := DevL.put_np_le (D.put ((n % 2 : Nat) : Int) (enc (madeR (n : Int) l))) ((n % 2 + 75 : Nat) : Int) (enc (madeR (n : Int) l))
    have h3 := HNP.out
    show ((D.put ((n % 2 : Nat) : Int) (enc (madeR (n : Int) l))).put ((n % 2 + 75 : Nat) : Int) (enc (madeR (n : Int) l))).np ≤ 2
    omega
  have H10 := hid (h10.mono (n' := 100) (lo' := w4.heap.size) (by omega) (Nat.le_refl _))
  have hbE : ((cut D 75 n (enc (madeR (n : Int) l))).crash ks [1, 0]).blocks = 300 := by exact HFL.out.blocks.trans hblk
  have hcE : ((cut D 75 n (enc (madeR (n : Int) l))).crash ks [1, 0]).calls ≤ 10 := by have := HFL.out.calls; show (fell D 75 n (enc (madeR (n : Int) l)) false ks).calls ≤ 10; omega
  have HFL2 := hid (show Fell D ((cut D 75 n (enc (madeR (n : Int) l))).crash ks [1, 0]) (keptAt 75 n false) (enc (madeR (n : Int) l)) from HFL.out)
  clear hcr hK t10 h10 hp10 HFL B9 HB9 HO9 H9
  generalize (cut D 75 n (enc (madeR (n : Int) l))).crash ks [1, 0] = Z at *
  generalize ({ m9 with p := p10 } : Mp) = m10 at *
  have hep : ((madeR (n : Int) l).ep.toNat) = n := Int.toNat_natCast n
  have HBE := hid (HFL2.out.best HF.out (show (madeR (n : Int) l).ep = (n : Int) from rfl) HE.out)
  have HCO := hid (HFL2.out.copies (show 0 < 75 by decide) HF.out (show (madeR (n : Int) l).ep = (n : Int) from rfl) HE.out)
  have HAG := hid (HFL2.out.again HF.out (show (madeR (n : Int) l).ep = (n : Int) from rfl) HE.out)
  have hlo := load_w bs _ _ _ _ Z w10 H10.out (E4.out.below B10.out) HFL2.out.idle.down (by omega) (by omega) HFL2.out.idle.bytes
  rw [hbE, HH, HBE.out] at hlo
  go_wp2_with fail
  refine hlo.mono ?_
  rintro e w13 ⟨⟨ar, cr, rfl, hR⟩, b13⟩
  rw [decide_eq_true HF.out.ep.1]
  have bA := (Below.refl w13.heap.size w13).alloc (Nat.le_refl _) (.cells #[.int .i64 (madeR (n : Int) l).ep, .slice ar (madeR (n : Int) l).rs.length cr] 98)
  obtain ⟨r0, r1⟩ := new2 w13 (.int .i64 (madeR (n : Int) l).ep) (.slice ar (madeR (n : Int) l).rs.length cr) 98
  have B14 := hid (B10.out.trans ((b13.trans (bA.mono b13.size)).mono B10.out.size))
  have H14 := hid ((H10.out.below b13).below bA)
  have A14 := hid (hR.below bA)
  clear hlo b13 hR bA
  go_wp2_with fail
  generalize w13.alloc (.cells #[.int .i64 (madeR (n : Int) l).ep, .slice ar (madeR (n : Int) l).rs.length cr] 98) = w14 at *
  have hco := copies_w bs _ _ _ _ Z w14 H14.out (E4.out.below B14.out) HFL2.out.idle.down (by omega) (by omega) HFL2.out.idle.bytes n (by rw [hbE, HH, HBE.out]; rfl) (by omega) (by omega)
  rw [hbE, HH, HCO.out] at hco
  simp only [Int.cast_ofNat_Int] at hco
  refine hco.mono ?_
  rintro e w15 ⟨rfl, b15⟩
  replace r0 := kept b15 r0
  replace r1 := kept b15 r1
  have B15 := hid (B14.out.trans (b15.mono B14.out.size))
  have H15 := hid (H14.out.below b15)
  have A15 := hid (A14.out.below b15)
  have hx0' := kept B15.out hx0.out
  have hx1' := kept B15.out hx1.out
  have hsm := same_w (madeR (n : Int) l) (madeR (n : Int) l) ar ax cr cx w15 A15.out (X4.out.below B15.out)
  rw [decide_eq_true (show (madeR (n : Int) l) = (madeR (n : Int) l) from rfl)] at hsm
  clear hco b15 H14 A14 B14
  go_wp2_with fail
  refine hsm.mono ?_
  rintro e w16 ⟨rfl, b16⟩
  replace r0 := kept b16 r0
  replace r1 := kept b16 r1
  have B16 := hid (B15.out.trans (b16.mono B15.out.size))
  have H16 := hid (H15.out.below b16)
  have A16 := hid (A15.out.below b16)
  clear hsm b16 H15 A15 B15 hx0' hx1'
  have hs2 := save_good bs _ _ _ _ Z (madeR (n : Int) l) ar cr w16 H16.out HFL2.out.idle (E4.out.below B16.out) (by omega) (by omega) A16.out HF.out.g HF.out.s (by decide) (by omega)
  rw [hbE, HH, hep] at hs2
  have HO16 := hid H16.out.own_lo
  go_wp2_with fail
  refine hs2.mono ?_
  rintro e w17 ⟨rfl, m17, h17, t17, _⟩
  have B17 := hid (B16.out.trans (t17.below B16.out.size HO16.out))
  have H17 := hid h17
  have hb5 : (Z.saved 75 n (enc (madeR (n : Int) l))).blocks = 300 := hbE
  generalize Z.saved 75 n (enc (madeR (n : Int) l)) = Y at *
  clear hs2 t17 h17 r0 r1 H16 A16 B16 HO16
  obtain ⟨hI5, hB5, hC5⟩ := HAG.out
  have hco := copies_w bs _ _ _ _ Y w17 H17.out (E4.out.below B17.out) hI5.down (by omega) (by omega) hI5.bytes n (by rw [hb5, HH, hB5]; rfl) (by omega) (by omega)
  rw [hb5, HH, hC5] at hco
  simp only [Int.cast_ofNat_Int] at hco
  have HI5 := hid hI5
  have HB5 := hid hB5
  clear hI5 hB5 hC5
  go_wp2_with fail
  refine hco.mono ?_
  rintro e w18 ⟨rfl, b18⟩
  have B18 := hid (B17.out.trans (b18.mono B17.out.size))
  have H18 := hid (H17.out.below b18)
  have hlo := load_w bs _ _ _ _ Y w18 H18.out (E4.out.below B18.out) HI5.out.down (by omega) (by omega) HI5.out.bytes
  rw [hb5, HH, HB5.out] at hlo
  clear hco b18 H17 B17
  go_wp2_with fail
  refine hlo.mono ?_
  rintro e w19 ⟨⟨au, cs, rfl, hS⟩, b19⟩
  rw [decide_eq_true HF.out.ep.1]
  have bA := (Below.refl w19.heap.size w19).alloc (Nat.le_refl _) (.cells #[.int .i64 (madeR (n : Int) l).ep, .slice au (madeR (n : Int) l).rs.length cs] 98)
  obtain ⟨r0, r1⟩ := new2 w19 (.int .i64 (madeR (n : Int) l).ep) (.slice au (madeR (n : Int) l).rs.length cs) 98
  have B20 := hid (B18.out.trans ((b19.trans (bA.mono b19.size)).mono B18.out.size))
  have S20 := hid (hS.below bA)
  have hx0' := kept B20.out hx0.out
  have hx1' := kept B20.out hx1.out
  clear hlo b19 hS bA H18 B18
  go_wp2_with fail
  generalize w19.alloc (.cells #[.int .i64 (madeR (n : Int) l).ep, .slice au (madeR (n : Int) l).rs.length cs] 98) = w20 at *
  have hsm := same_w (madeR (n : Int) l) (madeR (n : Int) l) au ax cs cx w20 S20.out (X4.out.below B20.out)
  rw [decide_eq_true (show (madeR (n : Int) l) = (madeR (n : Int) l) from rfl)] at hsm
  refine hsm.mono ?_
  rintro e w21 ⟨rfl, b21⟩
  have B21 := hid (B20.out.trans (b21.mono B20.out.size))
  clear hsm b21 r0 r1 hx0' hx1'
  go_wp2_with fail
  go_ret
  exact ⟨rfl, B4.out.trans (B21.out.mono B4.out.size)⟩
set_option maxHeartbeats 6400000 in
theorem first1 (a0 : Int) (a : Option Addr) (len cap : Nat) (l : List Int) (bs : List Addr) (w : World) (hB : Ev w w.heap.size bs six) (hl : Is w a len cap l) (hn : len ≤ 1000000000) (h1 : -9223372036854775808 ≤ a0 ∧ a0 ≤ 9223372036854775807) (k : Nat) (hk : a0 % 20 = (k : Int)) (hk20 : k < 20) (hF : Fine (madeR ((k + 1 : Nat) : Int) l)) (h0 : 0 < k) :
    Calls Tryd.prog 14 #[.int .i64 a0, .bool false, .slice a len cap] w fun e w' => e = .returned (.bool true) ∧ Below w.heap.size w w' := by
  obtain ⟨n, hnk⟩ : ∃ n : Nat, n = k + 1 := ⟨_, rfl⟩
  have hkn : (k : Int) + 1 = (n : Int) := by omega
  have hn1 : 1 ≤ n := by omega
  have hn20 : n ≤ 20 := by omega
  rw [← hnk] at hF
  have HF := hid hF
  clear hF
  have d1 : decide ((1 : Int) < (n : Int)) = true := decide_eq_true (by omega)
  have H0 := hid h0
  clear h0
  have HK := hid hnk
  clear hnk
  go_enter Tryd.func14, Tryd.ntmps14
  go_wp2_with fail
  refine (first_w bs w hB).mono ?_
  rintro e w1 ⟨rfl, b1⟩
  have E1 := hid (hB.below b1)
  have B1 := hid b1
  have L1 := hid (hl.below b1)
  clear hB b1 hl
  go_wp2_with fail
  refine (NumW.number_w a0 20 _ (by decide) (by decide) h1.1 h1.2).mono ?_
  rintro e w' ⟨rfl, rfl⟩
  rw [hk]
  clear hk h1
  have hma := made_w (n : Int) a len cap l w1 L1.out hn
  go_wp2_with fail
  refine hma.mono ?_
  rintro e w2 ⟨⟨ax, cx, rfl, hX⟩, b2⟩
  have HM := hid (show madeR (n : Int) l = madeR (n : Int) l from rfl)
  have bx := b2.trans ((Below.refl w2.heap.size w2).alloc (Nat.le_refl _) (.cells #[.int .i64 (madeR (n : Int) l).ep, .slice ax (madeR (n : Int) l).rs.length cx] 98) |>.mono b2.size)
  have E2 := hid (E1.out.below bx)
  have B2 := hid (B1.out.trans (bx.mono B1.out.size))
  have X2 := hid (hX.below ((Below.refl w2.heap.size w2).alloc (Nat.le_refl _) (.cells #[.int .i64 (madeR (n : Int) l).ep, .slice ax (madeR (n : Int) l).rs.length cx] 98)))
  obtain ⟨x0, x1⟩ := new2 w2 (.int .i64 (madeR (n : Int) l).ep) (.slice ax (madeR (n : Int) l).rs.length cx) 98
  clear hma hX b2 bx E1 B1 L1
  go_wp2_with fail
  generalize w2.alloc (.cells #[.int .i64 (madeR (n : Int) l).ep, .slice ax (madeR (n : Int) l).rs.length cx] 98) = w3 at *
  refine (bytes_any bs _ (madeR (n : Int) l) ax _ cx w3 X2.out (E2.out.sub (by decide)) (sums _ _)).mono ?_
  rintro e w4 ⟨⟨v, u, rfl, ⟨rfl, _⟩ | ⟨hg, _⟩⟩, b4⟩
  rotate_left
  · exact absurd ((good_iff _).2 HF.out.g) hg
  replace x0 := kept b4 x0
  replace x1 := kept b4 x1
  have E4 := hid ((E2.out.below b4).mono (B2.out.trans (b4.mono B2.out.size)).size)
  have B4 := hid (B2.out.trans (b4.mono B2.out.size))
  have X4 := hid (X2.out.below b4)
  have hx0 := hid x0
  have hx1 := hid x1
  clear b4 X2 E2 x0 x1 B2
  go_wp2_with fail
  refine (new_w 300 w4 (by decide) (by decide)).mono ?_
  rintro e w5 ⟨rfl, h5, b5, z5⟩
  have B5 := hid b5
  have H5 := hid h5
  clear h5 b5 z5
  go_wp2_with fail
  have hFp : Fine (madeR (k : Int) [9]) := ⟨(good_iff _).1 (by have h0 := H0.out; unfold amiss badE badR madeR; simp [refOf]; omega), sums _ _⟩
  have hE : Elder ((Dv.new 300).saved 75 k (enc (madeR (k : Int) [9]))) 75 n := by rw [HK.out]; exact Elder.one 300 75 k (by decide) hFp rfl
  have hkn' : (n : Int) - 1 = (k : Int) := by omega
  have HP := hid hFp
  have hmb := made_w (k : Int) _ 1 1 [9] _ (is_one w5 9 3) (by decide)
  clear hFp
  simp only [hkn']
  refine hmb.mono ?_
  rintro e w6 ⟨⟨ay, cy, rfl, hY⟩, b6⟩
  have b6' := (Below.refl w5.heap.size w5).alloc (Nat.le_refl _) (.cells #[.int .i64 9] 3) |>.trans (b6.mono (by simp))
  have h6 := H5.out.below b6'
  have B6 := hid (B5.out.trans (b6'.mono B5.out.size))
  have hs := save_good bs _ _ _ _ _ (madeR (k : Int) [9]) ay cy w6 h6 (Dv.Idle.new 300) (E4.out.below B6.out) (by decide) (by decide) hY HP.out.g HP.out.s (by decide) (by decide)
  have HO6 := hid h6.own_lo
  rw [show (Dv.new 300).blocks = 300 from rfl, HH, show (madeR (k : Int) [9]).ep.toNat = k from Int.toNat_natCast k] at hs
  clear hmb hY b6 b6' h6 H5 B5
  go_wp2_with fail
  refine hs.mono ?_
  rintro e w7 ⟨rfl, m, h7, t7, _⟩
  have B7 := hid (B6.out.trans (t7.below B6.out.size HO6.out))
  have H7 := hid (h7.mono (n' := 8) (lo' := w4.heap.size) (by decide) (Nat.le_refl _))
  have hblk : ((Dv.new 300).saved 75 k (enc (madeR (k : Int) [9]))).blocks = 300 := rfl
  have hcal : ((Dv.new 300).saved 75 k (enc (madeR (k : Int) [9]))).calls ≤ 3 := Nat.le_refl _
  clear hs h7 t7 B6 HO6
  generalize (Dv.new 300).saved 75 k (enc (madeR (k : Int) [9])) = D at *
  go_wp2_with fail
  have HE := hid hE
  clear hE
  have har := arm_w _ _ _ _ D 3 w7 H7.out (by decide)
  have HO7 := hid H7.out.own_lo
  simp only [Int.cast_ofNat_Int] at har
  refine har.mono ?_
  rintro e w8 ⟨rfl, h8, t8⟩
  have B8 := hid (B7.out.trans (t8.below B7.out.size (fun x hx => HO7.out x (by rw [List.mem_singleton.1 hx]; exact List.mem_cons_self))))
  have hx0' := kept B8.out hx0.out
  have hx1' := kept B8.out hx1.out
  have hsv := save_w bs _ _ _ _ { D with fuse := 3 } n (madeR (n : Int) l).rs ax cx w8 h8 (E4.out.below B8.out) (by show 300 ≤ D.blocks; omega) (by show D.blocks ≤ 6000; omega) (X4.out.below B8.out) HF.out.g HF.out.s (by decide) (by show D.np < 10000; rw [HE.out.idle.np]; decide) (by show D.calls < 900000; omega) (by show 3 ≤ 1000000; decide)
  rw [show GeoW.half ({ D with fuse := 3 } : Dv).blocks = 75 by show GeoW.half D.blocks = 75; rw [hblk]; exact HH, save_cut HE.out.idle] at hsv
  have HNP := hid HE.out.idle.np
  rw [show ({ D with fuse := 3 } : Dv).np = 0 from HE.out.idle.np] at hsv
  clear har h8 t8 B7 H7
  go_wp2_with fail
  refine hsv.mono ?_
  rintro e w9 ⟨⟨v9, ⟨xe, hxe, rfl⟩, rfl⟩, p9, hp9, h9, t9⟩
  have B9 := hid (B8.out.trans (t9.below B8.out.size HO7.out))
  have H9 := hid h9
  generalize ({ m with p := p9 } : Mp) = m9 at *
  clear hsv h9 t9 hp9 B8 hx0' hx1'
  have hB9 : ∀ z : TypeId, Below w9.heap.size w9 (w9.alloc (.cells #[.int .i64 1, .int .i64 0] z)) := fun z => (Below.refl _ w9).alloc (Nat.le_refl _) _
  have hcr := crash_w _ _ _ _ (cut D 75 n (enc (madeR (n : Int) l))) (some ⟨w9.heap.size, 0, none⟩) 2 2 [1, 0] (w9.alloc (.cells #[.int .i64 1, .int .i64 0] 3)) (H9.out.below (hB9 _)) (fun w' t => Is.turn (is_two w9 1 0 3) t (fun b o e hm => by cases e; have := H9.out.olds _ hm; omega)) (by show (cut D 75 n (enc (madeR (n : Int) l))).np ≤ 1000; have h1 := DevL.put_np_le D ((n % 2 : Nat) : Int) (enc (madeR (n : Int) l)); have h2 := DevL.put_np_le (D.put ((n % 2 : Nat) : Int) (enc (madeR (n : Int) l))) ((n % 2 + 75 : Nat) : Int) (enc (madeR (n : Int) l)); have h3 := HNP.out; show ((D.put ((n % 2 : Nat) : Int) (enc (madeR (n : Int) l))).put ((n % 2 + 75 : Nat) : Int) (enc (madeR (n : Int) l))).np ≤ 1000; omega) (by decide)
  have HB9 := hid (hB9 3)
  have HO9 := hid H9.out.own_lo
  clear hB9
  go_wp2_with fail
  refine hcr.mono ?_
  rintro e w10 ⟨rfl, ks, p10, hK, hp10, h10, t10⟩
  have HFL := hid (fell_is HE.out.idle (show 0 < 75 by decide) HF.out.bytes false hK)
  have B10 := hid ((B9.out.trans (HB9.out.mono B9.out.size)).trans (t10.below (Nat.le_trans B9.out.size HB9.out.size) HO9.out))
  have hnp2 : (cut D 75 n (enc (madeR (n : Int) l))).np ≤ 2 := by
    have h1 := DevL.put_np_le D ((n % 2 : Nat) : Int) (enc (madeR (n : Int) l))
    have h2 := DevL.put_np_le (D.put ((n % 2 : Nat) : Int) (enc (madeR (n : Int) l))) ((n % 2 + 75 : Nat) : Int) (enc (madeR (n : Int) l))
    have h3 := HNP.out
    show ((D.put ((n % 2 : Nat) : Int) (enc (madeR (n : Int) l))).put ((n % 2 + 75 : Nat) : Int) (enc (madeR (n : Int) l))).np ≤ 2
    omega
  have H10 := hid (h10.mono (n' := 100) (lo' := w4.heap.size) (by omega) (Nat.le_refl _))
  have hbE : ((cut D 75 n (enc (madeR (n : Int) l))).crash ks [1, 0]).blocks = 300 := by exact HFL.out.blocks.trans hblk
  have hcE : ((cut D 75 n (enc (madeR (n : Int) l))).crash ks [1, 0]).calls ≤ 10 := by have := HFL.out.calls; show (fell D 75 n (enc (madeR (n : Int) l)) false ks).calls ≤ 10; omega
  have HFL2 := hid (show Fell D ((cut D 75 n (enc (madeR (n : Int) l))).crash ks [1, 0]) (keptAt 75 n false) (enc (madeR (n : Int) l)) from HFL.out)
  clear hcr hK t10 h10 hp10 HFL B9 HB9 HO9 H9
  generalize (cut D 75 n (enc (madeR (n : Int) l))).crash ks [1, 0] = Z at *
  generalize ({ m9 with p := p10 } : Mp) = m10 at *
  have hep : ((madeR (n : Int) l).ep.toNat) = n := Int.toNat_natCast n
  have HBE := hid (HFL2.out.best HF.out (show (madeR (n : Int) l).ep = (n : Int) from rfl) HE.out)
  have HCO := hid (HFL2.out.copies (show 0 < 75 by decide) HF.out (show (madeR (n : Int) l).ep = (n : Int) from rfl) HE.out)
  have HAG := hid (HFL2.out.again HF.out (show (madeR (n : Int) l).ep = (n : Int) from rfl) HE.out)
  have hlo := load_w bs _ _ _ _ Z w10 H10.out (E4.out.below B10.out) HFL2.out.idle.down (by omega) (by omega) HFL2.out.idle.bytes
  rw [hbE, HH, HBE.out] at hlo
  go_wp2_with fail
  refine hlo.mono ?_
  rintro e w13 ⟨⟨ar, cr, rfl, hR⟩, b13⟩
  rw [decide_eq_true HF.out.ep.1]
  have bA := (Below.refl w13.heap.size w13).alloc (Nat.le_refl _) (.cells #[.int .i64 (madeR (n : Int) l).ep, .slice ar (madeR (n : Int) l).rs.length cr] 98)
  obtain ⟨r0, r1⟩ := new2 w13 (.int .i64 (madeR (n : Int) l).ep) (.slice ar (madeR (n : Int) l).rs.length cr) 98
  have B14 := hid (B10.out.trans ((b13.trans (bA.mono b13.size)).mono B10.out.size))
  have H14 := hid ((H10.out.below b13).below bA)
  have A14 := hid (hR.below bA)
  clear hlo b13 hR bA
  go_wp2_with fail
  generalize w13.alloc (.cells #[.int .i64 (madeR (n : Int) l).ep, .slice ar (madeR (n : Int) l).rs.length cr] 98) = w14 at *
  have hco := copies_w bs _ _ _ _ Z w14 H14.out (E4.out.below B14.out) HFL2.out.idle.down (by omega) (by omega) HFL2.out.idle.bytes n (by rw [hbE, HH, HBE.out]; rfl) (by omega) (by omega)
  rw [hbE, HH, HCO.out] at hco
  simp only [Int.cast_ofNat_Int] at hco
  refine hco.mono ?_
  rintro e w15 ⟨rfl, b15⟩
  replace r0 := kept b15 r0
  replace r1 := kept b15 r1
  have B15 := hid (B14.out.trans (b15.mono B14.out.size))
  have H15 := hid (H14.out.below b15)
  have A15 := hid (A14.out.below b15)
  have hx0' := kept B15.out hx0.out
  have hx1' := kept B15.out hx1.out
  have hsm := same_w (madeR (n : Int) l) (madeR (n : Int) l) ar ax cr cx w15 A15.out (X4.out.below B15.out)
  rw [decide_eq_true (show (madeR (n : Int) l) = (madeR (n : Int) l) from rfl)] at hsm
  clear hco b15 H14 A14 B14
  go_wp2_with fail
  refine hsm.mono ?_
  rintro e w16 ⟨rfl, b16⟩
  replace r0 := kept b16 r0
  replace r1 := kept b16 r1
  have B16 := hid (B15.out.trans (b16.mono B15.out.size))
  have H16 := hid (H15.out.below b16)
  have A16 := hid (A15.out.below b16)
  clear hsm b16 H15 A15 B15 hx0' hx1'
  have hs2 := save_good bs _ _ _ _ Z (madeR (n : Int) l) ar cr w16 H16.out HFL2.out.idle (E4.out.below B16.out) (by omega) (by omega) A16.out HF.out.g HF.out.s (by decide) (by omega)
  rw [hbE, HH, hep] at hs2
  have HO16 := hid H16.out.own_lo
  go_wp2_with fail
  refine hs2.mono ?_
  rintro e w17 ⟨rfl, m17, h17, t17, _⟩
  have B17 := hid (B16.out.trans (t17.below B16.out.size HO16.out))
  have H17 := hid h17
  have hb5 : (Z.saved 75 n (enc (madeR (n : Int) l))).blocks = 300 := hbE
  generalize Z.saved 75 n (enc (madeR (n : Int) l)) = Y at *
  clear hs2 t17 h17 r0 r1 H16 A16 B16 HO16
  obtain ⟨hI5, hB5, hC5⟩ := HAG.out
  have hco := copies_w bs _ _ _ _ Y w17 H17.out (E4.out.below B17.out) hI5.down (by omega) (by omega) hI5.bytes n (by rw [hb5, HH, hB5]; rfl) (by omega) (by omega)
  rw [hb5, HH, hC5] at hco
  simp only [Int.cast_ofNat_Int] at hco
  have HI5 := hid hI5
  have HB5 := hid hB5
  clear hI5 hB5 hC5
  go_wp2_with fail
  refine hco.mono ?_
  rintro e w18 ⟨rfl, b18⟩
  have B18 := hid (B17.out.trans (b18.mono B17.out.size))
  have H18 := hid (H17.out.below b18)
  have hlo := load_w bs _ _ _ _ Y w18 H18.out (E4.out.below B18.out) HI5.out.down (by omega) (by omega) HI5.out.bytes
  rw [hb5, HH, HB5.out] at hlo
  clear hco b18 H17 B17
  go_wp2_with fail
  refine hlo.mono ?_
  rintro e w19 ⟨⟨au, cs, rfl, hS⟩, b19⟩
  rw [decide_eq_true HF.out.ep.1]
  have bA := (Below.refl w19.heap.size w19).alloc (Nat.le_refl _) (.cells #[.int .i64 (madeR (n : Int) l).ep, .slice au (madeR (n : Int) l).rs.length cs] 98)
  obtain ⟨r0, r1⟩ := new2 w19 (.int .i64 (madeR (n : Int) l).ep) (.slice au (madeR (n : Int) l).rs.length cs) 98
  have B20 := hid (B18.out.trans ((b19.trans (bA.mono b19.size)).mono B18.out.size))
  have S20 := hid (hS.below bA)
  have hx0' := kept B20.out hx0.out
  have hx1' := kept B20.out hx1.out
  clear hlo b19 hS bA H18 B18
  go_wp2_with fail
  generalize w19.alloc (.cells #[.int .i64 (madeR (n : Int) l).ep, .slice au (madeR (n : Int) l).rs.length cs] 98) = w20 at *
  have hsm := same_w (madeR (n : Int) l) (madeR (n : Int) l) au ax cs cx w20 S20.out (X4.out.below B20.out)
  rw [decide_eq_true (show (madeR (n : Int) l) = (madeR (n : Int) l) from rfl)] at hsm
  refine hsm.mono ?_
  rintro e w21 ⟨rfl, b21⟩
  have B21 := hid (B20.out.trans (b21.mono B20.out.size))
  clear hsm b21 r0 r1 hx0' hx1'
  go_wp2_with fail
  go_ret
  exact ⟨rfl, B4.out.trans (B21.out.mono B4.out.size)⟩
theorem walk (a0 : Int) (a1 : Bool) (a2 : Option Addr) (len2 cap2 : Nat) (z2 : List Int) (w : World) (hE : Err.All w [3, 0, 5, 2, 1, 4]) (w0 : (Lit.int .i64 a0).wf = true) (w2 : IsRow .i64 w a2 len2 cap2 z2) (s2 : len2 ≤ 1048576) :
    Calls Tryd.prog 14 #[.int .i64 a0, .bool a1, .slice a2 len2 cap2] w fun e w' => e = .returned (.bool true) ∧ Below w.heap.size w w' := by
  obtain ⟨bs, hB⟩ := Ev.of_all hE six rfl (by decide)
  obtain ⟨l, hl, _⟩ := is_of w2
  have h1 := int_of w0
  obtain ⟨k, hk⟩ := Int.eq_ofNat_of_zero_le (Int.emod_nonneg a0 (show (20 : Int) ≠ 0 by decide))
  have hk20 : k < 20 := by have := Int.emod_lt_of_pos a0 (show (0 : Int) < 20 by decide); omega
  cases h2 : amiss (madeR ((k + 1 : Nat) : Int) l) with
  | some q => exact nogood a0 a1 a2 len2 cap2 l bs w hB hl (by omega) h1 k hk hk20 (by rw [h2]; simp)
  | none =>
    have hF : Fine (madeR ((k + 1 : Nat) : Int) l) := ⟨(good_iff _).1 h2, sums _ l⟩
    rcases Nat.eq_zero_or_pos k with h0 | h0 <;> cases a1
    · exact first0 a0 a2 len2 cap2 l bs w hB hl (by omega) h1 k hk hk20 hF h0
    · exact second0 a0 a2 len2 cap2 l bs w hB hl (by omega) h1 k hk hk20 hF h0
    · exact first1 a0 a2 len2 cap2 l bs w hB hl (by omega) h1 k hk hk20 hF h0
    · exact second1 a0 a2 len2 cap2 l bs w hB hl (by omega) h1 k hk hk20 hF h0
end Go.Proofs.YtlljpljfmaaejaaDoor.rootHalf
