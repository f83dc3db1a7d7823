/- The walk of WireForms. -/
import Derived.Test.YtdgbgdkfoeoppaaDoorWireFirst
import Derived.Test.YtdgbgdkfoeoppaaDoorWireSee
import Derived.Deep.CutRange
namespace Go.Proofs.YtdgbgdkfoeoppaaDoor.wireForms
open Go Go.RowKit Go.Proofs.YtdgbgdkfoeoppaaDoor.Mem Go.Proofs.YtdgbgdkfoeoppaaDoor.RefW Go.Proofs.YtdgbgdkfoeoppaaDoor.Text Go.Proofs.YtdgbgdkfoeoppaaDoor.Wire
set_option linter.unusedVariables false
set_option maxRecDepth 100000

set_option maxHeartbeats 6400000 in
theorem walk1 (a b : Int) (bs : List Addr) (w : World) (hB : SeeW.Bs w bs) (ha : -9223372036854775808 ≤ a ∧ a ≤ 9223372036854775807) (hb : -9223372036854775808 ≤ b ∧ b ≤ 9223372036854775807) :
    Calls Tryd.prog 9 #[.int .i64 a, .int .i64 b] w fun e w' => e = .returned (.bool true) ∧ Below w.heap.size w w' := by
  have za := zig_lt ha
  have zb := zig_lt hb
  have la := enc_ten za
  have lb := enc_ten zb
  have pa := enc_pos (zig a)
  have pb := enc_pos (zig b)
  have HF := hid (fun e => enc_free za zb e)
  have HI := hid (fun e : zig a = zig b => zig_inj e)
  have ca := fun w => puts_w none 0 0 [] a w (Nums.nil _ _) ha (by decide)
  have cb := fun w => puts_w none 0 0 [] b w (Nums.nil _ _) hb (by decide)
  obtain ⟨c, hc⟩ : ∃ c, (enc (zig a))[(enc (zig a)).length - 1]? = some c := ⟨_, List.getElem?_eq_getElem (by omega)⟩
  have hc8 := enc_last _ c hc
  have HD := hid (dec_bad (zig a) 0 0 c hc (by simpa using za) (by decide))
  have hX := enc_byte (zig a)
  simp only [List.nil_append, Nat.zero_add] at ca cb
  generalize enc (zig a) = x at *
  generalize enc (zig b) = y at *
  generalize zig a = z at *
  generalize zig b = z' at *
  go_enter Tryd.func9, Tryd.ntmps9
  go_wp2_with fail
  refine (first_w _).mono ?_
  rintro e w1 ⟨rfl, hb1⟩
  have c1 := hb1
  clear hb1
  go_wp2_with fail
  refine (ca _).mono ?_
  rintro e w2 ⟨v, rfl, hv, hb2⟩
  obtain ⟨xa, xc, rfl, hx⟩ := ownsRow_slice hv
  have hx : Nums .u8 w2 xa x.length xc x := hx
  replace c1 := c1.trans (hb2.mono c1.size)
  clear hv hb2 ca
  go_wp2_with fail
  refine (cb _).mono ?_
  rintro e w3 ⟨v, rfl, hv, hb3⟩
  obtain ⟨ya, yc, rfl, hy⟩ := ownsRow_slice hv
  obtain ⟨g, rfl⟩ := own_some hv pb
  have hy : Nums .u8 w3 (some ⟨g, 0, none⟩) y.length yc y := hy
  replace hx := hx.below hb3
  replace c1 := c1.trans (hb3.mono c1.size)
  obtain ⟨yb1, yb2⟩ := hy.bound
  have hyc : ¬ (yc = 0) := by omega
  clear hv hb3 cb
  have d1 : ((x.length : Int) == 0) = false := by rw [beq_eq_false_iff_ne]; omega
  have d2 : decide ((10 : Int) < (x.length : Int)) = false := by rw [decide_eq_false_iff_not]; omega
  have d3 : ((y.length : Int) == 0) = false := by rw [beq_eq_false_iff_ne]; omega
  go_upto_region 8 with fail
  go_cut [47] from 30 to 46 (fun v wx => v = .bool false ∧ Below w3.heap.size w3 wx)
  case first =>
    by_cases e : a = b
    · subst e
      have e1 : (a != a) = false := by simp
      go_wp2_with fail
      go_meet
      exact ⟨rfl, Below.refl _ _⟩
    · have e1 : (a != b) = true := by simpa using e
      by_cases hl : x.length ≤ y.length
      · have e2 : decide ((x.length : Int) ≤ (y.length : Int)) = true := by rw [decide_eq_true_eq]; omega
        have e3 : (x.length : Int) ≤ (yc : Int) := by omega
        have hne : ¬ x = y.take x.length := fun e' => e (HI.out (HF.out e'))
        go_wp2_with fail
        refine (same_w xa x.length xc x (some ⟨g, 0, none⟩) x.length yc (y.take x.length) _ hx (hy.take hl)).mono ?_
        rintro e w' ⟨rfl, hb'⟩
        rw [show decide (x = y.take x.length) = false by rw [decide_eq_false_iff_not]; exact hne]
        go_wp2_with fail
        go_meet
        exact ⟨rfl, hb'⟩
      · have e2 : decide ((x.length : Int) ≤ (y.length : Int)) = false := by rw [decide_eq_false_iff_not]; omega
        go_wp2_with fail
        go_meet
        exact ⟨rfl, Below.refl _ _⟩
  case rest =>
    obtain ⟨rfl, hb4⟩ := hcut
    replace hx := hx.below hb4
    replace c1 := c1.trans (hb4.mono c1.size)
    clear hb4 hy HF HI d1 d2 d3 yb1 yb2 hyc
    go_wp2_with fail
    refine (bytes_w xa x.length xc x _ hx (by omega)).mono ?_
    rintro e w5 ⟨v, rfl, hv, hb5⟩
    obtain ⟨va, vc, rfl, hr⟩ := ownsRow_slice hv
    obtain ⟨h, rfl⟩ := own_some hv pa
    have hO : OwnN w5 wc.heap.size 5 .u8 h x.length vc x := hv
    have hm : (x.length : Int) - 1 = ((x.length - 1 : Nat) : Int) := by omega
    obtain ⟨hk, hk'⟩ := List.getElem?_eq_some_iff.1 hc
    have ce := hO.cell hk
    rw [hk'] at ce
    have hw : IntKind.i64.wrap ((x.length : Int) - 1) = ((x.length - 1 : Nat) : Int) := by rw [IntWalk.i64_in _ (by omega)]; omega
    have ho : bits .or .u8 (c : Int) 128 = ((c + 128 : Nat) : Int) := by
      have := or_u8 c
      rw [show ((c : Int) % 256) = (c : Int) by omega, show c % 128 = c by omega] at this
      exact this
    have hO2 : OwnN (w5.setCell ⟨h, x.length - 1, none⟩ (.int .u8 ((c + 128 : Nat) : Int))) wc.heap.size 5 .u8 h x.length vc (x.set (x.length - 1) (c + 128)) := hO.set (x.length - 1) (c + 128)
    have z5 := hb5.size
    have hlt := hO.lt
    have c5 : Below wc.heap.size wc (w5.setCell ⟨h, x.length - 1, none⟩ (.int .u8 ((c + 128 : Nat) : Int))) := hb5.setCell (by exact hlt.1) _
    have hfr : w5.frozen? ⟨h, x.length - 1, none⟩ = false := by
      rcases hv.2 with ⟨h', _⟩ | ⟨g', c', cur, h', _, hg', _⟩
      · cases h'
      · cases h'; exact frozen_of_row w5 _ _ _ _ hg'
    clear hv hr hx
    have ec : ((c + 128 : Nat) : Int) = (c : Int) + 128 := by omega
    rw [ec] at hO2 c5 ho
    clear ec
    go_upto_region 12 with fail
    have e5 : (w5.setCell ⟨h, x.length - 1, none⟩ (.int .u8 ((c : Int) + 128))).heap.size = w5.heap.size := by simp
    have lL : (x.set (x.length - 1) (c + 128)).length = x.length := by simp
    have hL : ∀ q ∈ x.set (x.length - 1) (c + 128) ++ [0], q < 256 := by
      intro q hq
      rcases List.mem_append.1 hq with hq | hq
      · rcases List.mem_or_eq_of_mem_set hq with hq | rfl
        · exact hX q hq
        · omega
      · simp at hq; omega
    generalize w5.setCell ⟨h, x.length - 1, none⟩ (.int .u8 ((c : Int) + 128)) = W5 at *
    generalize x.set (x.length - 1) (c + 128) = X at *
    have c6 := c1.trans (c5.mono c1.size)
    have z6 := c5.size
    clear hfr hlt ce hO hw ho hk hk' hb5 hm hc hX z5
    go_wp2_with (at_builtin; go_must (refine wpList_push elU8 rfl _ _ rfl wc.heap.size _ x.length _ rfl (hO2.alloc _) w5.heap.size (.int .u8 0) rfl (by rw [← e5]; simp) rfl (by unfold maxLen; omega) (by omega) (by simp; omega) ?_); intro v6 w6 o6 hb6 _)
    obtain ⟨ra, rc, rfl, hr6⟩ := ownsRow_slice o6
    have hr6 : Nums .u8 w6 ra (x.length + 1) rc (X ++ [0]) := by
      have : nums .u8 (X ++ [0]) = nums .u8 X ++ [.int .u8 0] := by simp [nums]
      unfold Nums
      rw [this]; exact hr6
    have c7 := c6.trans (((Below.refl _ _).alloc c6.size _).trans (hb6.mono c1.size))
    refine (new_w ra (x.length + 1) rc (X ++ [0]) _ hr6 hL (by omega)).mono ?_
    rintro e w7 ⟨⟨G, ba, bc, rfl, hG, hRd⟩, hb7⟩
    have c8 := c7.trans (hb7.mono c7.size)
    clear c5 c6 c1 hO2 o6 hb6 hb7 hr6
    go_wp2_with fail
    obtain ⟨E0, hE0, hA0⟩ := (hB.below c8).2.2 0 _ rfl
    obtain ⟨E1, hE1, hA1⟩ := (hB.below c8).2.2 1 _ rfl
    obtain ⟨E2, hE2, hA2⟩ := (hB.below c8).2.2 2 _ rfl
    refine (num_bad G ba (x.length + 1) bc (X ++ [0]) 0 _ _ E0 E1 E2 E1 _ hRd hA0 hA1 hA2 (.inr (.inl ⟨HD.out, rfl⟩))).mono ?_
    rintro e w8 ⟨⟨q, hq, rfl, hFa⟩, hG8⟩
    have c9 := c8.trans (on_below hG8 (Nat.le_trans c7.size hG) c8.size)
    clear hRd hA0 hA1 hA2 hG8 hE0 hE2
    go_wp2_with fail
    refine (err_w G ba _ bc _ 0 _ _ hFa.1).mono ?_
    rintro e w9 ⟨rfl, hb9⟩
    have hFa9 := hFa.below hb9
    have c10 := c9.trans (hb9.mono c9.size)
    go_wp2_with fail
    refine (placed_w 102 0 _ (by decide)).mono ?_
    rintro e w10 ⟨rfl, hb10⟩
    have hFa10 := hFa9.below hb10
    have c11 := c10.trans (hb10.mono c10.size)
    go_wp2_with fail
    refine (samep_w (atv q) (101 + ((1 : Nat) : Int)) 102 true true 0 0 _ (fun W hW => fault_at bs W ((hB.below c11).below hW) 1 q 0 E1 hE1 (hFa10.below hW).2)).mono ?_
    rintro e w11 ⟨rfl, hb11⟩
    rw [show (101 + ((1 : Nat) : Int) == 102 && true == true && (0 : Int) == 0) = true by decide]
    have hFa11 := hFa10.below hb11
    have c12 := c11.trans (hb11.mono c11.size)
    go_wp2_with fail
    refine (at_w G ba _ bc _ 0 _ _ hFa11.1).mono ?_
    rintro e w12 ⟨rfl, hb12⟩
    have c13 := c12.trans (hb12.mono c12.size)
    go_wp2_with fail
    go_ret
    exact ⟨rfl, c13⟩

theorem walk (a0 a1 : Int) (w : World) (hA : Err.All w SeeW.gl) (w0 : (Lit.int .i64 a0).wf = true) (w1 : (Lit.int .i64 a1).wf = true) :
    Calls Tryd.prog 9 #[.int .i64 a0, .int .i64 a1] w fun e w' => e = .returned (.bool true) ∧ Below w.heap.size w w' := by
  obtain ⟨bs, hB⟩ := SeeW.bs_of hA
  exact walk1 a0 a1 bs w hB (int_of w0) (int_of w1)
end Go.Proofs.YtdgbgdkfoeoppaaDoor.wireForms
