/- The walk of WireTwins. -/
import Derived.Test.YtdgbgdkfoeoppaaDoorWireFirst
import Derived.Test.YtdgbgdkfoeoppaaDoorWireTwo
import Derived.Test.YtdgbgdkfoeoppaaDoorNumWalk
import Derived.Deep.RegionHeld
namespace Go.Proofs.YtdgbgdkfoeoppaaDoor.wireTwins
open Go Go.RowKit Go.Proofs.YtdgbgdkfoeoppaaDoor.Mem Go.Proofs.YtdgbgdkfoeoppaaDoor.RefW Go.Proofs.YtdgbgdkfoeoppaaDoor.Text Go.Proofs.YtdgbgdkfoeoppaaDoor.Wire
set_option linter.unusedVariables false
set_option maxRecDepth 100000

theorem over (a : Option Addr) (n cap : Nat) (q : Int) (w : World) (h : 20 < n) :
    Calls Tryd.prog 10 #[.slice a n cap, .int .i64 q] w fun e w' => e = .returned (.bool true) ∧ Below w.heap.size w w' := by
  have d1 : decide ((20 : Int) < (n : Int)) = true := by rw [decide_eq_true_eq]; omega
  go_enter Tryd.func10, Tryd.ntmps10
  go_wp2_with fail
  refine (first_w _).mono ?_
  rintro e w1 ⟨rfl, hb1⟩
  go_wp2_with fail
  go_ret
  exact ⟨rfl, hb1⟩

set_option maxHeartbeats 6400000 in
theorem good (a : Option Addr) (n cap : Nat) (zs : List Int) (q : Int) (k : Nat) (w : World) (hA0' : ∃ E0, Err.At w 2 E0) (hA1' : ∃ E1, Err.At w 3 E1) (hl : Ints.Is w a n cap zs) (hn : n ≤ 20) (hz : ∀ x ∈ zs, -9223372036854775808 ≤ x ∧ x ≤ 9223372036854775807)
    (hq : -9223372036854775808 ≤ q ∧ q ≤ 9223372036854775807) (hk : q % ((n : Int) + 1) = (k : Int)) :
    Calls Tryd.prog 10 #[.slice a n cap, .int .i64 q] w fun e w' => e = .returned (.bool true) ∧ Below w.heap.size w w' := by
  obtain ⟨E0, hA0⟩ := hA0'
  obtain ⟨E1, hA1⟩ := hA1'
  have d1 : decide ((20 : Int) < (n : Int)) = false := by rw [decide_eq_false_iff_not]; omega
  have HL := hid hl.len
  have hkn : k ≤ n := by
    have := Int.emod_lt_of_pos q (show (0 : Int) < (n : Int) + 1 by omega)
    omega
  have n0 := fun w => NumW.number_w q ((n : Int) + 1) w (by omega) (by omega) hq.1 hq.2
  rw [hk] at n0
  clear hk
  have HZ := hid hz
  have hlen := encAll_len zs hz
  rw [HL.out] at hlen
  clear hz
  go_enter Tryd.func10, Tryd.ntmps10
  go_wp2_with fail
  refine (first_w _).mono ?_
  rintro e w1 ⟨rfl, c1⟩
  go_wp2_with fail
  go_loopw [6, 7] (fun b i wr => ∃ (j : Nat) (ba : Option Addr) (bc : Nat), j ≤ n ∧ i = .int .i64 (j : Int) ∧ b = .slice ba (encAll (zs.take j)).length bc ∧ Nums .u8 wr ba (encAll (zs.take j)).length bc (encAll (zs.take j)) ∧ Below w.heap.size w wr) (fun _ i _ => n - (intOf i).toNat)
  case atStart => exact ⟨0, none, 0, by omega, rfl, rfl, Nums.nil _ _, c1⟩
  case round =>
    obtain ⟨j, ba, bc, hj, rfl, rfl, hB, hb⟩ := hrel
    by_cases hlt : j < n
    · have hkl : j < zs.length := by rw [HL.out]; exact hlt
      obtain ⟨b0, o0, rfl, hc0⟩ := (hl.below hb).at hkl
      have HS := hid (encAll_succ hkl)
      have hin := HZ.out _ (List.getElem_mem hkl)
      have hm : (encAll (zs.take j)).length ≤ 100000 := by
        have h1 := encAll_len (zs.take j) (fun x hx => HZ.out x (List.mem_of_mem_take hx))
        rw [List.length_take] at h1; omega
      generalize zs[j] = y at hc0 HS hin
      generalize encAll (zs.take j) = L at *
      clear hl
      go_wp2_with fail
      refine (puts_w ba L.length bc L y _ hB hin hm).mono ?_
      rintro e w2 ⟨v, rfl, hv, hb2⟩
      obtain ⟨xa, xc, rfl, hx⟩ := ownsRow_slice hv
      have hx : Nums .u8 w2 xa (L.length + (enc (zig y)).length) xc (L ++ enc (zig y)) := hx
      have c2 := hb.trans (hb2.mono hb.size)
      clear hv hb2
      go_wp2_with fail
      go_roundw
      case rel => exact ⟨j + 1, xa, xc, by omega, by go_num, by rw [HS.out, List.length_append], by rw [HS.out, List.length_append]; exact hx, c2⟩
      case measure => simp [intOf]; omega
    · obtain rfl : j = n := by omega
      have ht : zs.take j = zs := List.take_of_length_le (by rw [HL.out]; omega)
      rw [ht] at hB ⊢
      clear ht
      have hY := encAll_byte zs
      have HD := hid (fun i (h : i < zs.length) => dec_at zs [] i h HZ.out)
      simp only [List.append_nil] at HD
      generalize hLL : encAll zs = L at *
      go_wp2_with fail
      refine (new_w2 ba L.length bc L _ hB hY (by omega)).mono ?_
      rintro e w3 ⟨⟨G, xa, xc, rfl, hG, hGa, hX⟩, hb3⟩
      have hGw : w.heap.size ≤ G := Nat.le_trans hb.size hG
      have c3 := hb.trans (hb3.mono hb.size)
      replace hB := hB.below hb3
      clear hb3 hb hG
      go_wp2_with fail
      refine (new_w2 ba L.length bc L _ hB hY (by omega)).mono ?_
      rintro e w4 ⟨⟨H, ya, yc, rfl, hH, hHa, hR⟩, hb4⟩
      have hHw : w.heap.size ≤ H := Nat.le_trans c3.size hH
      have hGH : G ≠ H := by have := hX.lt; omega
      have hxH : ∀ b o, xa = some ⟨b, o, none⟩ → b ≠ H := fun b o e => by have := (hGa b o e).2; omega
      have hyG : ∀ b o, ya = some ⟨b, o, none⟩ → b ≠ G := fun b o e => by have := (hHa b o e).1; have := hX.lt; omega
      replace hX := hX.below hb4
      have c4 := c3.trans (hb4.mono c3.size)
      clear hb4 c3 hB hGa hHa hH
      have hw0 : IntKind.i64.wrap ((j : Int) + 1) = (j : Int) + 1 := IntWalk.i64_in _ (by omega)
      go_wp2_with fail
      refine (n0 _).mono ?_
      rintro e w5 ⟨rfl, rfl⟩
      clear n0
      go_wp2_with fail
      go_loopw [11] (fun i wr => ∃ (t : Nat), t ≤ k ∧ i = .int .i64 (t : Int) ∧ Rd wr G xa L.length xc L (encAll (zs.take t)).length .nilIface ∧ Rd wr H ya L.length yc L 0 .nilIface ∧ Below w.heap.size w wr) (fun i _ => k - (intOf i).toNat)
      case atStart => exact ⟨0, by omega, rfl, hX, hR, c4⟩
      case round =>
        obtain ⟨t, ht, rfl, hX, hR, hb⟩ := hrel
        by_cases hlt' : t < k
        · have hkl : t < zs.length := by rw [HL.out]; omega
          obtain ⟨b0, o0, rfl, hc0⟩ := (hl.below hb).at hkl
          have hbw : b0 < w.heap.size := by
            obtain ⟨b1, o1, e, h⟩ := hl.at hkl
            cases e
            exact World.block_lt_of_cell? w _ h
          have HS := hid (show (encAll (zs.take (t + 1))).length = (encAll (zs.take t)).length + (enc (zig zs[t])).length by rw [encAll_succ hkl, List.length_append])
          have hin := HZ.out _ (List.getElem_mem hkl)
          have hD := HD.out t hkl
          have hzz := zag_zig zs[t]
          generalize zs[t] = y at hc0 HS hin hD hzz
          generalize (encAll (zs.take t)).length = p at *
          have i1 : (0 : Int) ≤ (t : Int) ∧ (t : Int) < (j : Int) := by omega
          have hyy : ((y : Int) != y) = false := by simp
          have hXd : Rd wr.drew G xa L.length xc L p .nilIface := hX.below (Below.refl _ _).drew
          have cnum := num_ok G xa L.length xc L p (zig y) (enc (zig y)).length (-9223372036854775808) 9223372036854775807 E0 E1 wr.drew hXd (hA0.below hb.drew) (hA1.below hb.drew) hD (by rw [hzz]; exact hin.1) (by rw [hzz]; exact hin.2)
          rw [hzz] at cnum
          have hcd : wr.drew.cell? ⟨b0, o0 + t, none⟩ = some (.int .i64 y) := hc0
          have hne0 : b0 ≠ G := by omega
          clear hD hzz hX hXd HD HZ hLL hY
          go_wp2_with fail
          go_region_held (fun w' => w'.cell? ⟨b0, o0 + t, none⟩ = some (.int .i64 y)) (first | exact hcd | go_keep)
            ((refine cnum.mono ?_; rintro e w' ⟨rfl, hX', hG'⟩; replace hcd := World.grownBy.cell hG' hcd (fun e => hne0 (Option.some.inj e))))
          all_goals
            have hRd : Rd wr.drew H ya L.length yc L 0 .nilIface := hR.below (Below.refl _ _).drew
            have hR' := hRd.on hG' (fun e => hGH e.symm) hyG
            have hb' := hb.drew.trans (on_below hG' hGw hb.size)
            clear hR hRd hG' cnum
            go_wp2_with fail
            go_roundw
            case rel => exact ⟨t + 1, by omega, by go_num, by rw [HS.out]; exact hX', hR', hb'⟩
            case measure => simp [intOf]; omega
        · obtain rfl : t = k := by omega
          go_wp2_with fail
          go_loopw [12] (fun i wr => ∃ (s : Nat), s ≤ j ∧ i = .int .i64 (s : Int) ∧ Rd wr G xa L.length xc L (encAll (zs.take t)).length .nilIface ∧ Rd wr H ya L.length yc L (encAll (zs.take s)).length .nilIface ∧ Below w.heap.size w wr) (fun i _ => j - (intOf i).toNat)
          case atStart => exact ⟨0, by omega, rfl, hX, hR, hb⟩
          case round =>
            obtain ⟨s, hs, rfl, hX, hR, hb⟩ := hrel
            by_cases hlt'' : s < j
            · have hkl : s < zs.length := by rw [HL.out]; omega
              obtain ⟨b0, o0, rfl, hc0⟩ := (hl.below hb).at hkl
              have hbw : b0 < w.heap.size := by
                obtain ⟨b1, o1, e, h⟩ := hl.at hkl
                cases e
                exact World.block_lt_of_cell? w _ h
              have HS := hid (show (encAll (zs.take (s + 1))).length = (encAll (zs.take s)).length + (enc (zig zs[s])).length by rw [encAll_succ hkl, List.length_append])
              have hin := HZ.out _ (List.getElem_mem hkl)
              have hD := HD.out s hkl
              have hzz := zag_zig zs[s]
              generalize zs[s] = y at hc0 HS hin hD hzz
              generalize (encAll (zs.take s)).length = p at *
              generalize (encAll (zs.take t)).length = p0 at *
              have i1 : (0 : Int) ≤ (s : Int) ∧ (s : Int) < (j : Int) := by omega
              have hyy : ((y : Int) != y) = false := by simp
              have hXd : Rd wr.drew H ya L.length yc L p .nilIface := hR.below (Below.refl _ _).drew
              have cnum := num_ok H ya L.length yc L p (zig y) (enc (zig y)).length (-9223372036854775808) 9223372036854775807 E0 E1 wr.drew hXd (hA0.below hb.drew) (hA1.below hb.drew) hD (by rw [hzz]; exact hin.1) (by rw [hzz]; exact hin.2)
              rw [hzz] at cnum
              have hcd : wr.drew.cell? ⟨b0, o0 + s, none⟩ = some (.int .i64 y) := hc0
              have hne0 : b0 ≠ H := by omega
              clear hD hzz hR hXd HD HZ hLL hY
              go_wp2_with fail
              go_region_held (fun w' => w'.cell? ⟨b0, o0 + s, none⟩ = some (.int .i64 y)) (first | exact hcd | go_keep)
                ((refine cnum.mono ?_; rintro e w' ⟨rfl, hR', hG'⟩; replace hcd := World.grownBy.cell hG' hcd (fun e => hne0 (Option.some.inj e))))
              all_goals
                have hRd : Rd wr.drew G xa L.length xc L p0 .nilIface := hX.below (Below.refl _ _).drew
                have hX' := hRd.on hG' hGH hxH
                have hb' := hb.drew.trans (on_below hG' hHw hb.size)
                clear hX hRd hG' cnum
                go_wp2_with fail
                go_roundw
                case rel => exact ⟨s + 1, by omega, by go_num, hX', by rw [HS.out]; exact hR', hb'⟩
                case measure => simp [intOf]; omega
            · obtain rfl : s = j := by omega
              have ht : (encAll (zs.take s)).length = L.length := by rw [List.take_of_length_le (by rw [HL.out]; omega), hLL]
              rw [ht] at hR
              have hpk : (encAll (zs.take t)).length ≤ L.length ∧ (L.length - (encAll (zs.take t)).length = 0 ↔ t = s) := by
                have e1 := encAll_split zs t
                rw [hLL] at e1
                have e2 : L.length = (encAll (zs.take t)).length + (encAll (zs.drop t)).length := by rw [e1, List.length_append]
                have e3 := (encAll_len (zs.drop t) (fun x hx => HZ.out x (List.mem_of_mem_drop hx))).1
                have e4 := (encAll_len (zs.drop t) (fun x hx => HZ.out x (List.mem_of_mem_drop hx))).2
                rw [List.length_drop, HL.out] at e3 e4
                omega
              generalize (encAll (zs.take t)).length = p0 at *
              have hAB : (((L.length - p0 : Nat) : Int) == 0) = ((t : Int) == (s : Int)) := by
                rw [Bool.eq_iff_iff, beq_iff_eq, beq_iff_eq]; omega
              have hw1 : IntKind.i64.wrap ((p0 : Int) + ((L.length - p0 : Nat) : Int)) = (L.length : Int) := by rw [IntWalk.i64_in _ (by omega)]; omega
              clear HD HZ hLL hY ht
              go_wp2_with fail
              refine (at_w G xa _ xc _ _ _ _ hX).mono ?_
              rintro e w6 ⟨rfl, hb6⟩
              replace hX := hX.below hb6
              replace hR := hR.below hb6
              replace hb := hb.trans (hb6.mono hb.size)
              clear hb6
              go_wp2_with fail
              refine (left_w G xa _ xc _ _ _ _ hX).mono ?_
              rintro e w7 ⟨rfl, hb7⟩
              replace hX := hX.below hb7
              replace hR := hR.below hb7
              replace hb := hb.trans (hb7.mono hb.size)
              clear hb7
              go_wp2_with fail
              refine (left_w H ya _ yc _ _ _ _ hR).mono ?_
              rintro e w8 ⟨rfl, hb8⟩
              rw [Nat.sub_self]
              replace hX := hX.below hb8
              replace hb := hb.trans (hb8.mono hb.size)
              clear hb8
              go_wp2_with fail
              refine (err_w G xa _ xc _ _ _ _ hX).mono ?_
              rintro e w9 ⟨rfl, hb9⟩
              replace hX := hX.below hb9
              replace hb := hb.trans (hb9.mono hb.size)
              clear hb9
              go_wp2_with fail
              refine (left_w G xa _ xc _ _ _ _ hX).mono ?_
              rintro e w10 ⟨rfl, hb10⟩
              replace hb := hb.trans (hb10.mono hb.size)
              clear hb10
              go_wp2_with fail
              go_ret
              exact ⟨rfl, hb⟩

theorem walk (a0 : Option Addr) (len0 cap0 : Nat) (z0 : List Int) (a1 : Int) (w : World) (hA : Err.All w [2, 3, 0]) (w0 : IsRow .i64 w a0 len0 cap0 z0) (w1 : (Lit.int .i64 a1).wf = true) :
    Calls Tryd.prog 10 #[.slice a0 len0 cap0, .int .i64 a1] w fun e w' => e = .returned (.bool true) ∧ Below w.heap.size w w' := by
  obtain ⟨l, hl, hx⟩ := Ints.is_of w0
  by_cases h : 20 < len0
  · exact over a0 len0 cap0 a1 w h
  · have hp := Int.emod_nonneg a1 (show ((len0 : Int) + 1) ≠ 0 by omega)
    exact good a0 len0 cap0 l a1 (a1 % ((len0 : Int) + 1)).toNat w (hA.at 0 _ rfl) (hA.at 1 _ rfl) hl (by omega) (fun x m => int_of (hx x m)) (int_of w1) (by omega)
end Go.Proofs.YtdgbgdkfoeoppaaDoor.wireTwins
