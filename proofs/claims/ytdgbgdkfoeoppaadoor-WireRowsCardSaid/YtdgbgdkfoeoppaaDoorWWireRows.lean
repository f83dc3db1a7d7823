/- The walk of WireRows. -/
import Derived.Test.YtdgbgdkfoeoppaaDoorWireFirst
import Derived.Test.YtdgbgdkfoeoppaaDoorWireSee
import Derived.Test.YtdgbgdkfoeoppaaDoorWireRowsB
import Derived.Test.YtdgbgdkfoeoppaaDoorNumWalk
namespace Go.Proofs.YtdgbgdkfoeoppaaDoor.wireRows
open Go Go.RowKit Go.Proofs.YtdgbgdkfoeoppaaDoor.Mem Go.Proofs.YtdgbgdkfoeoppaaDoor.RefW Go.Proofs.YtdgbgdkfoeoppaaDoor.Text Go.Proofs.YtdgbgdkfoeoppaaDoor.Wire
set_option linter.unusedVariables false
set_option maxRecDepth 100000

theorem over (a : Option Addr) (n cap : Nat) (s : ByteArray) (q : Int) (w : World) (h : 20 < n ∨ 60 < s.size) :
    Calls Tryd.prog 13 #[.slice a n cap, .string s, .int .i64 q] w fun e w' => e = .returned (.bool true) ∧ Below w.heap.size w w' := by
  by_cases hm : 20 < n
  case' pos => have d1 : decide ((20 : Int) < (n : Int)) = true := by rw [decide_eq_true_eq]; omega
  case' neg =>
    have d1 : decide ((20 : Int) < (n : Int)) = false := by rw [decide_eq_false_iff_not]; omega
    have d2 : decide ((60 : Int) < (s.size : Int)) = true := by rw [decide_eq_true_eq]; omega
  all_goals
    clear h hm
    go_enter Tryd.func13, Tryd.ntmps13
    go_wp2_with fail
    refine (first_w _).mono ?_
    rintro e w1 ⟨rfl, hb1⟩
    go_wp2_with fail
    go_ret
    exact ⟨rfl, hb1⟩

theorem elInt : El Tryd.prog 37 3 (.int .i64 0) 1 8 := ⟨Tryd.underlying37, by kernel_rfl, rfl, by decide⟩
/-- where the forms end -/
def ends (zs : List Int) (j : Nat) : List Nat := (List.range j).map fun i => (encAll (zs.take (i + 1))).length
theorem ends_succ (zs : List Int) (j : Nat) : ends zs (j + 1) = ends zs j ++ [(encAll (zs.take (j + 1))).length] := by
  unfold ends
  rw [List.range_succ, List.map_append]
  rfl
theorem ends_len (zs : List Int) (j : Nat) : (ends zs j).length = j := by simp [ends]

set_option maxHeartbeats 6400000 in
theorem good (a : Option Addr) (n cap : Nat) (zs : List Int) (s : ByteArray) (q : Int) (bs : List Addr) (w : World) (hBs : SeeW.Bs w bs) (hl : Ints.Is w a n cap zs) (hn : n ≤ 20) (hs : s.size ≤ 60) (hz : ∀ x ∈ zs, -9223372036854775808 ≤ x ∧ x ≤ 9223372036854775807)
    (hq : -9223372036854775808 ≤ q ∧ q ≤ 9223372036854775807) :
    Calls Tryd.prog 13 #[.slice a n cap, .string s, .int .i64 q] w fun e w' => e = .returned (.bool true) ∧ Below w.heap.size w w' := by
  have d1 : decide ((20 : Int) < (n : Int)) = false := by rw [decide_eq_false_iff_not]; omega
  have d2 : decide ((60 : Int) < (s.size : Int)) = false := by rw [decide_eq_false_iff_not]; omega
  have HL := hid hl.len
  have HZ := hid hz
  have hlen := encAll_len zs hz
  rw [HL.out] at hlen
  clear hz
  go_enter Tryd.func13, Tryd.ntmps13
  go_wp2_with fail
  refine (first_w _).mono ?_
  rintro e w1 ⟨rfl, c1⟩
  go_wp2_with fail
  go_loopw [8, 9, 10] (fun b en i wr => ∃ (j : Nat) (ba : Option Addr) (bc : Nat), j ≤ n ∧ i = .int .i64 (j : Int) ∧ b = .slice ba (encAll (zs.take j)).length bc ∧ Nums .u8 wr ba (encAll (zs.take j)).length bc (encAll (zs.take j)) ∧ wr.ownsRow w.heap.size 3 1 en j (nums .i64 (ends zs j)) ∧ Below w.heap.size w wr) (fun _ _ i _ => n - (intOf i).toNat)
  case atStart => exact ⟨0, none, 0, by omega, rfl, rfl, Nums.nil _ _, World.ownsRow_nil _ _ _ _, c1⟩
  case round =>
    obtain ⟨j, ba, bc, hj, rfl, rfl, hB, hE, hb⟩ := hrel
    by_cases hlt : j < n
    · have hkl : j < zs.length := by rw [HL.out]; exact hlt
      obtain ⟨b0, o0, rfl, hc0⟩ := (hl.below hb).at hkl
      have HS := hid (encAll_succ hkl)
      have HN := hid (ends_succ zs j)
      have hin := HZ.out _ (List.getElem_mem hkl)
      have hm : (encAll (zs.take j)).length ≤ 100000 := by
        have h1 := encAll_len (zs.take j) (fun x hx => HZ.out x (List.mem_of_mem_take hx))
        rw [List.length_take] at h1; omega
      generalize zs[j] = y at hc0 HS hin
      generalize hLL' : encAll (zs.take (j + 1)) = L' at HS HN
      generalize encAll (zs.take j) = L at *
      have hty := enc_ten (zig_lt hin)
      clear hl
      go_wp2_with fail
      refine (puts_w ba L.length bc L y _ hB hin hm).mono ?_
      rintro e w2 ⟨v, rfl, hv, hb2⟩
      obtain ⟨xa, xc, rfl, hx⟩ := ownsRow_slice hv
      have hx : Nums .u8 w2 xa L'.length xc L' := by rw [HS.out, List.length_append]; exact hx
      have e1 : L.length + (enc (zig y)).length = L'.length := by rw [HS.out, List.length_append]
      rw [e1]
      have c2 := hb.trans (hb2.mono hb.size)
      have hE2 := ownsRow_below hE hb2
      have z2 := c2.size
      have hEl : ∀ k, u9.ownBlock = some k → k < wr.heap.size := fun k hk => (hE.lt k hk).2
      have hxl : ∀ b o, xa = some ⟨b, o, none⟩ → wr.heap.size ≤ b := fun b o e => by
        subst e
        exact (hv.lt b (by rcases hv.2 with ⟨h, _⟩ | ⟨g, c', cur, h, _⟩ <;> cases h <;> rfl)).1
      have hx2 := Nums.below hx ((Below.refl w2.heap.size w2).alloc (Nat.le_refl _) (.cells #[.int .i64 (L'.length : Int)] 3))
      clear hv hb2 hE hB hx
      go_wp2_with (at_builtin; go_must (refine wpList_push elInt rfl _ _ rfl w.heap.size _ j _ rfl (hE2.alloc _) w2.heap.size (.int .i64 (L'.length : Int)) rfl (by simp) rfl (by unfold maxLen; omega) (by omega) (by simp; omega) ?_); intro v3 w3 o3 hb3 hg3)
      have c3 := (c2.alloc z2 _).trans hb3
      have hx3 : Nums .u8 w3 xa L'.length xc L' := Row.keep hx2 fun b o e hlt' => hg3.block b hlt' (fun e' => by have h1 := hEl b e'.symm; have h2 := hxl b o e; omega)
      go_roundw
      case rel => exact ⟨j + 1, xa, xc, by omega, by go_num, by rw [hLL'], by rw [hLL']; exact hx3, by rw [HN.out]; simpa [nums] using o3, c3⟩
      case measure => simp [intOf]; omega
    · obtain rfl : j = n := by omega
      have ht : zs.take j = zs := List.take_of_length_le (by rw [HL.out]; omega)
      rw [ht] at hB ⊢
      clear ht
      have hY := encAll_byte zs
      generalize hLL : encAll zs = L at *
      have hss : -9223372036854775808 ≤ (s.size : Int) ∧ (s.size : Int) ≤ 9223372036854775807 := by omega
      have hts := enc_ten (zig_lt hss)
      go_wp2_with fail
      refine (putt_w ba L.length bc L s _ hB (by omega) (by omega)).mono ?_
      rintro e w3 ⟨v, rfl, hv, hb3⟩
      obtain ⟨xa, xc, rfl, hx⟩ := ownsRow_slice hv
      have hx : Nums .u8 w3 xa (L.length + (enc (zig s.size)).length + s.size) xc (L ++ enc (zig s.size) ++ txt s) := hx
      have c3 := hb.trans (hb3.mono hb.size)
      have hE3 := ownsRow_below hE hb3
      have hEl : ∀ k, u9.ownBlock = some k → k < wr.heap.size := fun k hk => (hE.lt k hk).2
      have hxl : ∀ b o, xa = some ⟨b, o, none⟩ → wr.heap.size ≤ b := fun b o e => by
        subst e
        exact (hv.lt b (by rcases hv.2 with ⟨h, _⟩ | ⟨g, c', cur, h, _⟩ <;> cases h <;> rfl)).1
      have hxb : ∀ x ∈ L ++ enc (zig s.size) ++ txt s, x < 256 := by
        intro x hx
        rcases List.mem_append.1 hx with hx | hx
        · rcases List.mem_append.1 hx with hx | hx
          · exact hY x hx
          · exact enc_byte _ x hx
        · exact Text.lt s x hx
      obtain ⟨N, hN⟩ : ∃ N, N = L.length + (enc (zig s.size)).length + s.size := ⟨_, rfl⟩
      rw [← hN] at hx ⊢
      have HNN := hid hN
      have hN3 : N ≤ 270 := by omega
      clear hN hv hb3 hb hB hE
      have hx2 := Nums.below hx ((Below.refl w3.heap.size w3).alloc (Nat.le_refl _) (.cells #[.int .i64 (N : Int)] 3))
      have z3 := c3.size
      go_wp2_with (at_builtin; go_must (refine wpList_push elInt rfl _ _ rfl w.heap.size _ j _ rfl (hE3.alloc _) w3.heap.size (.int .i64 (N : Int)) rfl (by simp) rfl (by unfold maxLen; omega) (by omega) (by simp; omega) ?_); intro v4 w4 o4 hb4 hg4)
      have c4 := (c3.alloc z3 _).trans hb4
      have hx4 : Nums .u8 w4 xa N xc (L ++ enc (zig s.size) ++ txt s) := Row.keep hx2 fun b o e hlt' => hg4.block b hlt' (fun e' => by have h1 := hEl b e'.symm; have h2 := hxl b o e; omega)
      obtain ⟨ea, ec, rfl, hEN⟩ := ownsRow_slice o4
      have hEN : Nums .i64 w4 ea (j + 1) ec (ends zs j ++ [N]) := by
        unfold Nums
        rw [show nums .i64 (ends zs j ++ [N]) = nums .i64 (ends zs j) ++ [.int .i64 (N : Int)] by simp [nums]]
        exact hEN
      clear hx2 hx hE3 hEl hxl hb4 hg4 o4 c3 z3
      have hN1 : 0 < N := by have := HNN.out; have := enc_pos (zig s.size); omega
      obtain ⟨k, hk⟩ : ∃ k : Nat, q % ((N : Int) + 1) = (k : Int) := ⟨(q % ((N : Int) + 1)).toNat, by have := Int.emod_nonneg q (show ((N : Int) + 1) ≠ 0 by omega); omega⟩
      have hkN : k ≤ N := by
        have := Int.emod_lt_of_pos q (show (0 : Int) < (N : Int) + 1 by omega)
        omega
      have n0 := NumW.number_w q ((N : Int) + 1) w4 (by omega) (by omega) hq.1 hq.2
      rw [hk] at n0
      clear hk
      refine n0.mono ?_
      rintro e w5 ⟨rfl, rfl⟩
      clear n0
      obtain ⟨cb1, cb2⟩ := hx4.bound
      have hc1 : (k : Int) ≤ (xc : Int) := by omega
      have hc2 : ¬ (xc = 0) := by omega
      obtain ⟨xb, xo, rfl, hxc⟩ := hx4.at (j := 0) (by rw [hx4.len]; exact hN1)
      go_wp2_with fail
      refine (new_w _ k xc _ _ (hx4.take (m := k) hkN) (fun y hy => hxb y (List.mem_of_mem_take hy)) (by omega)).mono ?_
      rintro e w6 ⟨⟨G, ya, yc, rfl, hG, hR⟩, hb6⟩
      have c6 := hb6
      clear hb6 hxc
      go_wp2_with fail
      go_loopw [13, 14] (fun at' i wr => ∃ (t p : Nat), t ≤ j + 1 ∧ i = .int .i64 (t : Int) ∧ at' = .int .i64 (p : Int) ∧ (t ≤ j → p = (encAll (zs.take t)).length) ∧ (t = j + 1 → p = N) ∧ Rd wr G ya k yc ((L ++ enc (zig s.size) ++ txt s).take k) p .nilIface ∧ Below w4.heap.size w4 wr) (fun _ i _ => j + 1 - (intOf i).toNat)
      case atStart => exact ⟨0, 0, by omega, rfl, rfl, fun _ => rfl, fun h => by omega, hR, c6⟩
      case round =>
        obtain ⟨t, p, ht, rfl, rfl, hp1, hp2, hR, hb⟩ := hrel
        by_cases htj : t ≤ j
        · have hGw : w.heap.size ≤ G := Nat.le_trans c4.size hG
          have cw := c4.trans (hb.mono c4.size)
          obtain ⟨E0, hE0, hA0⟩ := (hBs.below cw).2.2 0 _ rfl
          obtain ⟨E1, hE1, hA1⟩ := (hBs.below cw).2.2 1 _ rfl
          obtain ⟨E2, hE2, hA2⟩ := (hBs.below cw).2.2 2 _ rfl
          have hg0 : (2 : Nat) ≠ G := by
            obtain ⟨E, _, hE⟩ := hBs.2.2 0 _ rfl
            have : (2 : Nat) < w.heap.size := World.block_lt_of_cell? w _ hE.1
            omega
          have i0 : (0 : Int) ≤ (t : Int) ∧ (t : Int) ≤ (j : Int) := by omega
          have hp := hp1 htj
          have hpk := hR.le
          clear hp1 hp2
          by_cases htl : t < j
          · have hkl : t < zs.length := by rw [HL.out]; omega
            obtain ⟨b0, o0, rfl, hc0⟩ := (hl.below cw).at hkl
            have hbw : b0 < w.heap.size := by
              obtain ⟨b1, o1, e, h⟩ := hl.at hkl
              cases e
              exact World.block_lt_of_cell? w _ h
            have hEV : (ends zs j ++ [N])[t]? = some (encAll (zs.take (t + 1))).length := by
              rw [List.getElem?_append_left (by rw [ends_len]; exact htl)]
              simp [ends, htl]
            obtain ⟨eb, eo, rfl, he0⟩ := hEN.2.2.2.2 t (.int .i64 (((encAll (zs.take (t + 1))).length : Nat) : Int)) (by unfold nums; rw [List.getElem?_map, hEV]; rfl)
            have hel : eb < w4.heap.size := World.block_lt_of_cell? w4 _ he0
            have he1 := keep hb he0 hel
            have HS := hid (show (encAll (zs.take (t + 1))).length = p + (enc (zig zs[t])).length by rw [encAll_succ hkl, List.length_append, hp])
            have hdr : (L ++ enc (zig s.size) ++ txt s).drop p = enc (zig zs[t]) ++ (encAll (zs.drop (t + 1)) ++ (enc (zig s.size) ++ txt s)) := by
              rw [List.append_assoc, ← hLL, hp]
              exact drop_at zs _ t hkl
            have hin := HZ.out _ (List.getElem_mem hkl)
            have hzl := zig_lt hin
            have hzz := zag_zig zs[t]
            generalize hP : (encAll (zs.take (t + 1))).length = P at *
            generalize zs[t] = y at *
            have i1 : (t : Int) < (j : Int) := by omega
            have i2 : (t : Int) < ((j + 1 : Nat) : Int) := by omega
            have hyy : ((y : Int) != y) = false := by simp
            have hne0 : b0 ≠ G := by omega
            have hne1 : eb ≠ G := by omega
            have HPP := hid hP
            clear hP hp
            by_cases hf : P ≤ k
            · have d3 : decide ((P : Int) ≤ (k : Int)) = true := by rw [decide_eq_true_eq]; omega
              have hd := dec_fits hdr hzl (show p + (enc (zig y)).length ≤ k by rw [← HS.out]; exact hf)
              go_wp2_with fail
              refine (num_ok G ya k yc _ p (zig y) (enc (zig y)).length _ _ E0 E1 _ hR hA0 hA1 hd (by rw [hzz]; exact hin.1) (by rw [hzz]; exact hin.2)).mono ?_
              rw [hzz, ← HS.out]
              rintro e w8 ⟨rfl, hR8, hG8⟩
              have hc8 := World.grownBy.cell hG8 hc0 (fun e => hne0 (Option.some.inj e))
              have he8 := World.grownBy.cell hG8 he1 (fun e => hne1 (Option.some.inj e))
              have hb8 := hb.trans (on_below hG8 hG hb.size)
              clear hG8 hR hc0 he0 he1 hd hdr hA0 hA1 hA2
              go_wp2_with fail
              go_roundw
              case rel => exact ⟨t + 1, P, by omega, by go_num, rfl, fun _ => HPP.out.symm, fun h => by omega, hR8, hb8⟩
              case measure => simp [intOf]; omega
            · have d3 : decide ((P : Int) ≤ (k : Int)) = false := by rw [decide_eq_false_iff_not]; omega
              have hd := dec_cuts hdr hzl hpk (show k < p + (enc (zig y)).length by rw [← HS.out]; omega)
              clear hdr
              go_wp2_with fail
              refine (num_bad G ya k yc _ p _ _ E0 E1 E2 E0 _ hR hA0 hA1 hA2 (.inl ⟨hd, rfl⟩)).mono ?_
              rintro e w8 ⟨⟨q', hq', rfl, hF⟩, hG8⟩
              have c8 := (c4.trans (hb.mono c4.size)).trans (on_below hG8 hGw (c4.trans (hb.mono c4.size)).size)
              clear hG8 hR
              go_wp2_with fail
              refine (at_w G ya _ yc _ _ _ _ hF.1).mono ?_
              rintro e w9 ⟨rfl, hb9⟩
              replace hF := hF.below hb9
              replace c8 := c8.trans (hb9.mono c8.size)
              clear hb9
              go_wp2_with fail
              refine (err_w G ya _ yc _ _ _ _ hF.1).mono ?_
              rintro e w10 ⟨rfl, hb10⟩
              replace hF := hF.below hb10
              replace c8 := c8.trans (hb10.mono c8.size)
              clear hb10
              go_wp2_with fail
              refine (placed_w 101 (p : Int) _ (by decide)).mono ?_
              rintro e w11 ⟨rfl, hb11⟩
              replace hF := hF.below hb11
              replace c8 := c8.trans (hb11.mono c8.size)
              clear hb11
              go_wp2_with fail
              refine (samep_w (atv q') (101 + ((0 : Nat) : Int)) 101 true true (p : Int) (p : Int) _ (fun W hW => fault_at bs W ((hBs.below c8).below hW) 0 q' p E0 hE0 (hF.below hW).2)).mono ?_
              rintro e w12 ⟨rfl, hb12⟩
              rw [show (101 + ((0 : Nat) : Int) == 101 && true == true && (p : Int) == (p : Int)) = true by simp]
              replace c8 := c8.trans (hb12.mono c8.size)
              go_wp2_with fail
              go_ret
              exact ⟨rfl, c8⟩
          · obtain rfl : t = j := by omega
            have hpL : p = L.length := by rw [hp, List.take_of_length_le (by rw [HL.out]; omega), hLL]
            have hEV : (ends zs t ++ [N])[t]? = some N := by
              rw [List.getElem?_append_right (by rw [ends_len]; omega), ends_len]
              simp
            obtain ⟨eb, eo, rfl, he0⟩ := hEN.2.2.2.2 t (.int .i64 (N : Int)) (by unfold nums; rw [List.getElem?_map, hEV]; rfl)
            have hel : eb < w4.heap.size := World.block_lt_of_cell? w4 _ he0
            have he1 := keep hb he0 hel
            have hdr : (L ++ enc (zig s.size) ++ txt s).drop p = enc (zig s.size) ++ txt s := by
              rw [List.append_assoc, hpL, List.drop_left]
            have hzl := zig_lt hss
            have hzz := zag_zig (s.size : Int)
            have i2 : (t : Int) < ((t + 1 : Nat) : Int) := by omega
            have hne1 : eb ≠ G := by omega
            have hNN := HNN.out
            rw [← hpL] at hNN
            have hlX : (L ++ enc (zig s.size) ++ txt s).length = N := by rw [List.length_append, List.length_append, Text.length, ← hpL, hNN]
            have hU : (((L ++ enc (zig s.size) ++ txt s).take N).drop (p + (enc (zig s.size)).length)).take s.size = txt s := by
              rw [← hlX, List.take_length, hpL, ← List.length_append, List.drop_left, List.take_of_length_le (by rw [Text.length]; omega)]
            have HN2 := hid hNN
            clear hp hpL hNN hlX
            by_cases hf : N ≤ k
            · obtain rfl : k = N := by omega
              have hd := dec_fits hdr hzl (show p + (enc (zig s.size)).length ≤ k by have := HN2.out; omega)
              have hst := of_txt s
              go_wp2_with fail
              refine (text_ok G ya k yc _ p (zig s.size) (enc (zig s.size)).length s.size 60 E0 E1 _ hR hA0 hA1 hd hzz (by omega) (by decide) (by have := HN2.out; omega)).mono ?_
              rw [hU, hst, ← HN2.out]
              rintro e w8 ⟨rfl, hR8, hG8⟩
              have he8 := World.grownBy.cell hG8 he1 (fun e => hne1 (Option.some.inj e))
              have hb8 := hb.trans (on_below hG8 hG hb.size)
              clear hG8 hR he0 he1 hd hdr hA0 hA1 hA2 hU
              go_wp2_with fail
              go_roundw
              case rel => exact ⟨t + 1, k, by omega, by go_num, rfl, fun h => by omega, fun _ => rfl, hR8, hb8⟩
              case measure => simp [intOf]
            · have d3 : decide ((N : Int) ≤ (k : Int)) = false := by rw [decide_eq_false_iff_not]; omega
              by_cases hc : k < p + (enc (zig s.size)).length
              · have hd := dec_cuts hdr hzl hpk hc
                clear hdr hU
                go_wp2_with fail
                refine (text_ends G ya k yc _ p 60 E0 E1 E2 _ hR hA0 hA1 hA2 hd (by decide)).mono ?_
                rintro e w8 ⟨⟨q', hq', rfl, hF⟩, hG8⟩
                have c8 := (c4.trans (hb.mono c4.size)).trans (on_below hG8 hGw (c4.trans (hb.mono c4.size)).size)
                clear hG8 hR
                go_wp2_with fail
                refine (at_w G ya _ yc _ _ _ _ hF.1).mono ?_
                rintro e w9 ⟨rfl, hb9⟩
                replace hF := hF.below hb9
                replace c8 := c8.trans (hb9.mono c8.size)
                clear hb9
                go_wp2_with fail
                refine (err_w G ya _ yc _ _ _ _ hF.1).mono ?_
                rintro e w10 ⟨rfl, hb10⟩
                replace hF := hF.below hb10
                replace c8 := c8.trans (hb10.mono c8.size)
                clear hb10
                go_wp2_with fail
                refine (placed_w 101 (p : Int) _ (by decide)).mono ?_
                rintro e w11 ⟨rfl, hb11⟩
                replace hF := hF.below hb11
                replace c8 := c8.trans (hb11.mono c8.size)
                clear hb11
                go_wp2_with fail
                refine (samep_w (atv q') (101 + ((0 : Nat) : Int)) 101 true true (p : Int) (p : Int) _ (fun W hW => fault_at bs W ((hBs.below c8).below hW) 0 q' p E0 hE0 (hF.below hW).2)).mono ?_
                rintro e w12 ⟨rfl, hb12⟩
                rw [show (101 + ((0 : Nat) : Int) == 101 && true == true && (p : Int) == (p : Int)) = true by simp]
                replace c8 := c8.trans (hb12.mono c8.size)
                go_wp2_with fail
                go_ret
                exact ⟨rfl, c8⟩
              · have hd := dec_fits hdr hzl (show p + (enc (zig s.size)).length ≤ k by have := HN2.out; omega)
                clear hdr hU
                go_wp2_with fail
                refine (text_short G ya k yc _ p (zig s.size) (enc (zig s.size)).length s.size 60 E0 E1 _ hR hA0 hA1 hg0 hd hzz (by omega) (by decide) (by have := HN2.out; omega)).mono ?_
                rintro e w8 ⟨⟨q', hq', rfl, hF⟩, hG8⟩
                have c8 := (c4.trans (hb.mono c4.size)).trans (on_below hG8 hGw (c4.trans (hb.mono c4.size)).size)
                clear hG8 hR
                go_wp2_with fail
                refine (at_w G ya _ yc _ _ _ _ hF.1).mono ?_
                rintro e w9 ⟨rfl, hb9⟩
                replace hF := hF.below hb9
                replace c8 := c8.trans (hb9.mono c8.size)
                clear hb9
                go_wp2_with fail
                refine (err_w G ya _ yc _ _ _ _ hF.1).mono ?_
                rintro e w10 ⟨rfl, hb10⟩
                replace hF := hF.below hb10
                replace c8 := c8.trans (hb10.mono c8.size)
                clear hb10
                go_wp2_with fail
                refine (placed_w 101 (p : Int) _ (by decide)).mono ?_
                rintro e w11 ⟨rfl, hb11⟩
                replace hF := hF.below hb11
                replace c8 := c8.trans (hb11.mono c8.size)
                clear hb11
                go_wp2_with fail
                refine (samep_w (atv q') (101 + ((0 : Nat) : Int)) 101 true true (p : Int) (p : Int) _ (fun W hW => fault_at bs W ((hBs.below c8).below hW) 0 q' p E0 hE0 (hF.below hW).2)).mono ?_
                rintro e w12 ⟨rfl, hb12⟩
                rw [show (101 + ((0 : Nat) : Int) == 101 && true == true && (p : Int) == (p : Int)) = true by simp]
                replace c8 := c8.trans (hb12.mono c8.size)
                go_wp2_with fail
                go_ret
                exact ⟨rfl, c8⟩
        · obtain rfl : t = j + 1 := by omega
          obtain rfl : p = N := hp2 rfl
          have hkp : k = p := by have := hR.le; omega
          subst hkp
          go_wp2_with fail
          refine (err_w G ya _ yc _ _ _ _ hR).mono ?_
          rintro e w8 ⟨rfl, hb8⟩
          replace hR := hR.below hb8
          replace hb := hb.trans (hb8.mono hb.size)
          go_wp2_with fail
          refine (left_w G ya _ yc _ _ _ _ hR).mono ?_
          rw [Nat.sub_self]
          rintro e w9 ⟨rfl, hb9⟩
          replace hb := hb.trans (hb9.mono hb.size)
          go_wp2_with fail
          go_ret
          exact ⟨rfl, c4.trans (hb.mono c4.size)⟩

theorem walk (a0 : Option Addr) (len0 cap0 : Nat) (z0 : List Int) (a1 : ByteArray) (a2 : Int) (w : World) (hA : Err.All w SeeW.gl) (w0 : IsRow .i64 w a0 len0 cap0 z0) (w1 : a1.size ≤ maxLen) (w2 : (Lit.int .i64 a2).wf = true) :
    Calls Tryd.prog 13 #[.slice a0 len0 cap0, .string a1, .int .i64 a2] w fun e w' => e = .returned (.bool true) ∧ Below w.heap.size w w' := by
  obtain ⟨bs, hB⟩ := SeeW.bs_of hA
  obtain ⟨l, hl, hx⟩ := Ints.is_of w0
  by_cases h : 20 < len0 ∨ 60 < a1.size
  · exact over a0 len0 cap0 a1 a2 w h
  · exact good a0 len0 cap0 l a1 a2 bs w hB hl (by omega) (by omega) (fun x m => int_of (hx x m)) (int_of w2)
end Go.Proofs.YtdgbgdkfoeoppaaDoor.wireRows
