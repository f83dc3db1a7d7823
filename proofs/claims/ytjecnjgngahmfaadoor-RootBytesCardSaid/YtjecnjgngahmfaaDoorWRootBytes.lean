/- The walk of RootBytes. -/
import Derived.Test.YtjecnjgngahmfaaDoorRootFirst
import Derived.Test.YtjecnjgngahmfaaDoorNumWalk
namespace Go.Proofs.YtjecnjgngahmfaaDoor.rootBytes
open Go Go.RowKit Go.Maps Go.Proofs.YtjecnjgngahmfaaDoor.Mem Go.Proofs.YtjecnjgngahmfaaDoor.MapsW Go.Proofs.YtjecnjgngahmfaaDoor.RootP Go.Proofs.YtjecnjgngahmfaaDoor.SeeW Go.Proofs.YtjecnjgngahmfaaDoor.RefsW Go.Proofs.YtjecnjgngahmfaaDoor.DevG Go.Proofs.YtjecnjgngahmfaaDoor.Ints Go.Proofs.YtjecnjgngahmfaaDoor.RootW
set_option linter.unusedVariables false
set_option maxRecDepth 100000

def badZ (z : Int) : Bool := decide (z < 0) || decide (6000 < z)
def least (n : Nat) : Int := if 16 < n then 104 else 0
def RB.upto (l : List Int) (b : Int) (k : Nat) : Int := if (l.take k).any badZ then 103 else b
theorem RB.upto_succ (l : List Int) (b : Int) (k : Nat) (h : k < l.length) : RB.upto l b (k + 1) = if badZ l[k] then 103 else RB.upto l b k := by
  unfold RB.upto
  rw [List.take_succ_eq_append_getElem h, List.any_append]
  simp only [List.any_cons, List.any_nil, Bool.or_false, Bool.or_eq_true]
  by_cases h1 : (l.take k).any badZ = true <;> by_cases h2 : badZ l[k] = true <;> simp [h1, h2]
theorem any_made (ep : Int) (l : List Int) : (madeR ep l).rs.any badR = l.any badZ := by
  unfold madeR
  rw [List.any_map]
  rfl
/-- what is told, told as a number -/
theorem amiss_code (ep : Int) (l : List Int) (k : Nat) (h : amiss (madeR ep l) = some k) : (101 + (k : Int)) = if badE ep then 103 else RB.upto l (least l.length) l.length := by
  unfold amiss at h
  rw [any_made, show (madeR ep l).rs.length = l.length by simp [madeR]] at h
  unfold RB.upto least
  rw [List.take_length]
  change (if (badE ep || l.any badZ) = true then some 2 else if 16 < l.length then some 3 else none) = some k at h
  cases h1 : badE ep <;> cases h2 : l.any badZ <;> rw [h1, h2] at h <;> simp at h ⊢
  · obtain ⟨h3, rfl⟩ := h
    rw [if_pos h3]; rfl
  · subst h; rfl
  · subst h; rfl
  · subst h; rfl

theorem long (ep : Int) (a : Option Addr) (n cap : Nat) (cut : Int) (bs : List Addr) (w : World) (hB : Ev w w.heap.size bs six) (h : 30 < n) :
    Calls Tryd.prog 9 #[.int .i64 ep, .slice a n cap, .int .i64 cut] w fun e w' => e = .returned (.bool true) ∧ Below w.heap.size w w' := by
  have hd : decide ((30 : Int) < n) = true := decide_eq_true (by omega)
  go_enter Tryd.func9, Tryd.ntmps9
  go_wp2_with fail
  refine (first_w bs w hB).mono ?_
  rintro e w1 ⟨rfl, b1⟩
  go_wp2_with fail
  go_ret
  exact ⟨rfl, b1⟩

set_option maxHeartbeats 3200000 in
theorem bad (ep : Int) (a : Option Addr) (n cap : Nat) (l : List Int) (cut : Int) (bs : List Addr) (w : World) (hS : Bs w bs) (hl : Is w a n cap l) (hn : n ≤ 30) (k : Nat) (hk : amiss (madeR ep l) = some k) :
    Calls Tryd.prog 9 #[.int .i64 ep, .slice a n cap, .int .i64 cut] w fun e w' => e = .returned (.bool true) ∧ Below w.heap.size w w' := by
  have HL := hid hl.len
  obtain ⟨c1, c2⟩ := hl.bound
  have hd : decide ((30 : Int) < n) = false := decide_eq_false (by omega)
  have HC := hid (amiss_code ep l k hk)
  have hB := Ev.of_bs hS six (by decide)
  obtain ⟨b0, hb0⟩ : ∃ b, b = least l.length := ⟨_, rfl⟩
  have h16 : (16 < n ∧ b0 = 104) ∨ (n ≤ 16 ∧ b0 = 0) := by
    rw [hb0]; unfold least
    have := hl.len
    split
    · exact .inl ⟨by omega, rfl⟩
    · exact .inr ⟨by omega, rfl⟩
  rw [← hb0] at HC
  have HK := hid hk
  obtain ⟨U, hU⟩ : ∃ U, U = RB.upto l b0 := ⟨_, rfl⟩
  rw [← hU, HL.out] at HC
  have HU := hid (show ∀ k (h : k < l.length), U (k + 1) = if badZ l[k] then 103 else U k by rw [hU]; exact RB.upto_succ l b0)
  have U0 : U 0 = b0 := by rw [hU]; rfl
  clear hb0 hk hU
  go_enter Tryd.func9, Tryd.ntmps9
  go_wp2_with fail
  refine (first_w bs w hB).mono ?_
  rintro e w1 ⟨rfl, b1⟩
  replace hl := hl.below b1
  replace hS := hS.below b1
  rcases h16 with ⟨h16, rfl⟩ | ⟨h16, rfl⟩
  all_goals
    go_wp2_with fail
    go_loop [8, 9] (fun b i => ∃ k : Nat, k ≤ n ∧ i = .int .i64 k ∧ b = .int .i64 (U k)) (fun _ i => n - (intOf i).toNat)
    case atStart => exact ⟨0, by omega, rfl, by rw [U0]⟩
    case round =>
      obtain ⟨j, hj, rfl, rfl⟩ := hrel
      by_cases hlt : j < n
      · have hkl : j < l.length := by rw [HL.out]; exact hlt
        obtain ⟨b0, o0, rfl, hc⟩ := hl.at hkl
        have HS := hid (HU.out j hkl)
        generalize l[j] = z at hc HS
        by_cases z0 : z < 0
        · have d1 : decide (z < 0) = true := decide_eq_true z0
          have HZ := hid (show badZ z = true by unfold badZ; rw [d1]; rfl)
          clear z0
          go_wp2_with fail
          go_round
          case rel => exact ⟨j + 1, by omega, by go_num, by rw [HS.out, HZ.out]; simp⟩
          case measure => simp [intOf]; omega
        · have d1 : decide (z < 0) = false := decide_eq_false z0
          by_cases z1 : 6000 < z
          · have d2 : decide (6000 < z) = true := decide_eq_true z1
            have HZ := hid (show badZ z = true by unfold badZ; rw [d2, Bool.or_true])
            clear z0 z1
            go_wp2_with fail
            go_round
            case rel => exact ⟨j + 1, by omega, by go_num, by rw [HS.out, HZ.out]; simp⟩
            case measure => simp [intOf]; omega
          · have d2 : decide (6000 < z) = false := decide_eq_false z1
            have HZ := hid (show badZ z = false by unfold badZ; rw [d1, d2]; rfl)
            clear z0 z1
            go_wp2_with fail
            go_round
            case rel => exact ⟨j + 1, by omega, by go_num, by rw [HS.out, HZ.out]; simp⟩
            case measure => simp [intOf]; omega
      · obtain rfl : j = n := by omega
        have hm := made_w ep a j cap l w1 hl (by omega)
        generalize U j = bj at *
        clear HU U0
        have hcase : ep < 1 ∨ (¬ ep < 1 ∧ 1099511627776 < ep) ∨ (¬ ep < 1 ∧ ¬ 1099511627776 < ep) := by omega
        rcases hcase with e1 | ⟨e1, e2⟩ | ⟨e1, e2⟩
        · have d1 : decide (ep < 1) = true := decide_eq_true e1
          have HQ := hid (show 101 + (k : Int) = 103 by rw [HC.out, show badE ep = true by unfold badE; rw [d1]; rfl]; rfl)
          clear e1
          go_wp2_with fail
          refine hm.mono ?_
          rintro e w2 ⟨⟨a', c', rfl, hR⟩, b2⟩
          have hno := bytes_no bs _ (madeR ep l) a' _ c' w2 hR ((Ev.of_bs hS six (by decide)).below b2 |>.sub (by decide)) k HK.out
          have hS2 := hS.below b2
          have B2 := b1.trans (b2.mono b1.size)
          clear hm hR hl b2
          go_wp2_with fail
          refine hno.mono ?_
          rintro e w3 ⟨⟨x, hx, rfl⟩, b3⟩
          have his := is_w bs w3 (hS2.below b3) k x hx
          have B3 := B2.trans (b3.mono B2.size)
          clear hno hS2 b3
          go_wp2_with fail
          refine (his _).mono ?_
          rintro e w4 ⟨rfl, b4⟩
          rw [beq_iff_eq.2 HQ.out]
          have B4 := B3.trans (b4.mono B3.size)
          clear his b4
          go_wp2_with fail
          go_ret
          exact ⟨rfl, B4⟩
        · have d1 : decide (ep < 1) = false := decide_eq_false e1
          have d2 : decide (1099511627776 < ep) = true := decide_eq_true e2
          have HQ := hid (show 101 + (k : Int) = 103 by rw [HC.out, show badE ep = true by unfold badE; rw [d1, d2]; rfl]; rfl)
          clear e1 e2
          go_wp2_with fail
          refine hm.mono ?_
          rintro e w2 ⟨⟨a', c', rfl, hR⟩, b2⟩
          have hno := bytes_no bs _ (madeR ep l) a' _ c' w2 hR ((Ev.of_bs hS six (by decide)).below b2 |>.sub (by decide)) k HK.out
          have hS2 := hS.below b2
          have B2 := b1.trans (b2.mono b1.size)
          clear hm hR hl b2
          go_wp2_with fail
          refine hno.mono ?_
          rintro e w3 ⟨⟨x, hx, rfl⟩, b3⟩
          have his := is_w bs w3 (hS2.below b3) k x hx
          have B3 := B2.trans (b3.mono B2.size)
          clear hno hS2 b3
          go_wp2_with fail
          refine (his _).mono ?_
          rintro e w4 ⟨rfl, b4⟩
          rw [beq_iff_eq.2 HQ.out]
          have B4 := B3.trans (b4.mono B3.size)
          clear his b4
          go_wp2_with fail
          go_ret
          exact ⟨rfl, B4⟩
        · have d1 : decide (ep < 1) = false := decide_eq_false e1
          have d2 : decide (1099511627776 < ep) = false := decide_eq_false e2
          have HQ := hid (show 101 + (k : Int) = bj by rw [HC.out, show badE ep = false by unfold badE; rw [d1, d2]; rfl]; rfl)
          clear e1 e2
          go_wp2_with fail
          refine hm.mono ?_
          rintro e w2 ⟨⟨a', c', rfl, hR⟩, b2⟩
          have hno := bytes_no bs _ (madeR ep l) a' _ c' w2 hR ((Ev.of_bs hS six (by decide)).below b2 |>.sub (by decide)) k HK.out
          have hS2 := hS.below b2
          have B2 := b1.trans (b2.mono b1.size)
          clear hm hR hl b2
          go_wp2_with fail
          refine hno.mono ?_
          rintro e w3 ⟨⟨x, hx, rfl⟩, b3⟩
          have his := is_w bs w3 (hS2.below b3) k x hx
          have B3 := B2.trans (b3.mono B2.size)
          clear hno hS2 b3
          go_wp2_with fail
          refine (his _).mono ?_
          rintro e w4 ⟨rfl, b4⟩
          rw [beq_iff_eq.2 HQ.out]
          have B4 := B3.trans (b4.mono B3.size)
          clear his b4
          go_wp2_with fail
          go_ret
          exact ⟨rfl, B4⟩

set_option maxHeartbeats 6400000 in
theorem good (ep : Int) (a : Option Addr) (n cap : Nat) (l : List Int) (cut : Int) (bs : List Addr) (w : World) (hS : Bs w bs) (hl : Is w a n cap l) (hn : n ≤ 30) (hg : RootP.Good (madeR ep l)) (hcut : -9223372036854775808 ≤ cut ∧ cut ≤ 9223372036854775807) :
    Calls Tryd.prog 9 #[.int .i64 ep, .slice a n cap, .int .i64 cut] w fun e w' => e = .returned (.bool true) ∧ Below w.heap.size w w' := by
  have HL := hid hl.len
  obtain ⟨c1, c2⟩ := hl.bound
  have hd : decide ((30 : Int) < n) = false := decide_eq_false (by omega)
  have h16 : decide ((16 : Int) < n) = false := by
    have := hg.n
    simp [madeR] at this
    rw [decide_eq_false_iff_not]; have := hl.len; omega
  have hel : ∀ z ∈ l, 0 ≤ z ∧ z ≤ 6000 := fun z hz => hg.a (refOf z) (List.mem_map_of_mem hz)
  have HEL := hid hel
  have d1 : decide (ep < 1) = false := decide_eq_false (by have := hg.e1; simp [madeR] at this; omega)
  have d2 : decide (1099511627776 < ep) = false := decide_eq_false (by have := hg.e2; simp [madeR] at this; omega)
  have hB := Ev.of_bs hS six (by decide)
  have HG := hid hg
  have HSum := hid (show ∀ x ∈ (madeR ep l).rs, x.2 < 4294967296 from fun x hx => by obtain ⟨z, _, rfl⟩ := List.mem_map.1 hx; exact sumOf_lt z)
  clear hel hg
  go_enter Tryd.func9, Tryd.ntmps9
  go_wp2_with fail
  refine (first_w bs w hB).mono ?_
  rintro e w1 ⟨rfl, b1⟩
  replace hl := hl.below b1
  have HS1 := hid (hS.below b1)
  have HB1 := hid b1
  clear hS hB b1
  go_wp2_with fail
  go_loop [8, 9] (fun b i => ∃ k : Nat, k ≤ n ∧ i = .int .i64 k ∧ b = .int .i64 0) (fun _ i => n - (intOf i).toNat)
  case atStart => exact ⟨0, by omega, rfl, rfl⟩
  case round =>
    obtain ⟨j, hj, rfl, rfl⟩ := hrel
    by_cases hlt : j < n
    · have hkl : j < l.length := by rw [HL.out]; exact hlt
      obtain ⟨b0, o0, rfl, hc⟩ := hl.at hkl
      have hz := HEL.out _ (List.getElem_mem hkl)
      generalize l[j] = z at hc hz
      have q1 : decide (z < 0) = false := decide_eq_false (by omega)
      have q2 : decide (6000 < z) = false := decide_eq_false (by omega)
      clear hz
      go_wp2_with fail
      go_round
      case rel => exact ⟨j + 1, by omega, by go_num, rfl⟩
      case measure => simp [intOf]; omega
    · obtain rfl : j = n := by omega
      have hm := made_w ep a j cap l w1 hl (by omega)
      have HLL := hid hl
      clear hl
      go_wp2_with fail
      refine hm.mono ?_
      rintro e w2 ⟨⟨a', c', rfl, hR⟩, b2⟩
      have hby := bytes_ok bs w1.heap.size (madeR ep l) a' _ c' w2 hR ((Ev.of_bs HS1.out rerr (by decide)).below b2) HG.out HSum.out
      have HS2 := hid (HS1.out.below b2)
      have HB2 := hid (HB1.out.trans (b2.mono HB1.out.size))
      have L2 := hid (HLL.out.below b2)
      clear hm hR b2 HLL
      go_wp2_with fail
      refine hby.mono ?_
      rintro e w3 ⟨⟨v, rfl, own3⟩, b3⟩
      obtain ⟨g, cp, rfl, nb, _⟩ := row_of own3
      have HS3 := hid (HS2.out.below b3)
      have HB3 := hid (HB2.out.trans (b3.mono HB2.out.size))
      have L3 := hid (L2.out.below b3)
      clear hby own3 b3 HS2 HB2 L2
      go_wp2_with fail
      refine (is_nil w3 0).mono ?_
      rintro e w4 ⟨rfl, b4⟩
      rw [show ((0 : Int) == 0) = true from rfl]
      have HS4 := hid (HS3.out.below b4)
      have HB4 := hid (HB3.out.trans (b4.mono HB3.out.size))
      have L4 := hid (L3.out.below b4)
      have N4 := hid (nb.below b4)
      have hby := enc_bytes (r := madeR ep l) HG.out.n
      have HBY := hid hby
      have hr := read_w' bs w4.heap.size _ 256 cp _ w4 N4.out hby (Ev.of_bs HS4.out rerr (by decide))
      rw [parse_enc HG.out HSum.out] at hr
      clear nb b4 HS3 HB3 L3 hby
      go_wp2_with fail
      refine hr.mono ?_
      rintro e w5 ⟨⟨ax, cx, rfl, hX, _⟩, b5⟩
      have bx := (Below.refl w5.heap.size w5).alloc (Nat.le_refl _) (.cells #[.int .i64 (madeR ep l).ep, .slice ax (madeR ep l).rs.length cx] 73)
      obtain ⟨x0, x1⟩ := new2 w5 (.int .i64 (madeR ep l).ep) (.slice ax (madeR ep l).rs.length cx) 73
      have N6 := hid ((N4.out.below b5).below bx)
      have S6 := hid ((HS4.out.below b5).below bx)
      have L6 := hid ((L4.out.below b5).below bx)
      have X6 := hid (hX.below bx)
      have B6 := hid (HB4.out.trans (b5.mono HB4.out.size) |>.trans (bx.mono (HB4.out.trans (b5.mono HB4.out.size)).size))
      clear hr hX b5 bx N4 HS4 L4 HB4
      clear HB1 HS1 h16 d1 d2
      have HZ5 := hid (show (w5.alloc (.cells #[.int .i64 (madeR ep l).ep, .slice ax (madeR ep l).rs.length cx] 73)).heap.size = w5.heap.size + 1 by simp)
      go_wp2_with (at_make; go_must (refine wpList_mkn RefW.elU8 rfl _ _ rfl _ _ _ _ _ 256 rfl rfl rfl rfl (by decide) (by decide) (Nat.le_refl _) ?_); intro w7 own7 hg7; rw [RefW.made_nums, HZ5.out] at own7; have b7 := below_growns hg7 (Nat.le_refl _); have N7 := hid (N6.out.below b7); have S7 := hid (S6.out.below b7); have L7 := hid (L6.out.below b7); have X7 := hid (X6.out.below b7); have B7 := hid (B6.out.trans (b7.mono B6.out.size)); replace x0 := kept b7 x0; replace x1 := kept b7 x1; clear N6 S6 L6 X6 B6 b7 hg7)
      have hz := read_w' bs w7.heap.size _ 256 _ _ w7 (OwnN.nums own7) (zeros_bytes 256) (Ev.of_bs S7.out rerr (by decide))
      rw [parse_zeros] at hz
      refine hz.mono ?_
      rintro e w8 ⟨rfl, b8⟩
      have bx := b8.trans ((Below.refl w8.heap.size w8).alloc (Nat.le_refl _) (.cells #[.int .i64 0, .slice none 0 0] 73) |>.mono b8.size)
      have N8 := hid (N7.out.below bx)
      have S8 := hid (S7.out.below bx)
      have L8 := hid (L7.out.below bx)
      have X8 := hid (X7.out.below bx)
      have B8 := hid (B7.out.trans (bx.mono B7.out.size))
      replace x0 := kept bx x0
      replace x1 := kept bx x1
      clear hz b8 bx own7 N7 S7 L7 X7 B7
      go_wp2_with fail
      refine (NumW.number_w cut 256 _ (by decide) (by decide) hcut.1 hcut.2).mono ?_
      rintro e w' ⟨rfl, rfl⟩
      obtain ⟨q, hq⟩ := Int.eq_ofNat_of_zero_le (Int.emod_nonneg cut (show (256 : Int) ≠ 0 by decide))
      have hq2 : q < 256 := by have := Int.emod_lt_of_pos cut (show (0 : Int) < 256 by decide); omega
      rw [hq]
      have HQ := hid hq2
      have hq3 : (0 : Int) ≤ q ∧ (q : Int) ≤ 256 := by omega
      have ncap := N8.out.bound
      have hsh := read_w' bs _ _ q cp _ _ (N8.out.take (m := q) (by omega)) (fun x hx => HBY.out x (List.mem_of_mem_take hx)) (Ev.of_bs S8.out rerr (by decide))
      rw [parse_len (by rw [List.length_take, enc_length]; omega)] at hsh
      clear hq
      go_wp2_with fail
      refine hsh.mono ?_
      rintro e w9 ⟨rfl, b9⟩
      have bx := b9.trans ((Below.refl w9.heap.size w9).alloc (Nat.le_refl _) (.cells #[.int .i64 0, .slice none 0 0] 73) |>.mono b9.size)
      have N9 := hid (N8.out.below bx)
      have S9 := hid (S8.out.below bx)
      have L9 := hid (L8.out.below bx)
      have X9 := hid (X8.out.below bx)
      have B9 := hid (B8.out.trans (bx.mono B8.out.size))
      replace x0 := kept bx x0
      replace x1 := kept bx x1
      clear hsh b9 bx N8 S8 L8 X8 B8
      go_wp2_with fail
      refine (RefW.bytes_w _ 256 cp _ _ N9.out (by decide)).mono ?_
      rintro e w10 ⟨v, rfl, own10, b10⟩
      have z10 := b10.size
      go_wp2_with (at_builtin; go_must (refine wpList_push RefW.elU8 rfl _ _ rfl _ _ 256 _ rfl (own10.alloc _) w10.heap.size (.int .u8 0) rfl (by simp) rfl (by decide) (by decide) (by simp at z10 ⊢; omega) ?_); intro v11 w11 own11 hb11 _; have b11 := (b10.alloc b10.size _).trans hb11; obtain ⟨a11, c11, rfl, r11⟩ := ownsRow_slice own11; have N11 := hid (N9.out.below b11); have S11 := hid (S9.out.below b11); have L11 := hid (L9.out.below b11); have X11 := hid (X9.out.below b11); have B11 := hid (B9.out.trans (b11.mono B9.out.size)); replace x0 := kept b11 x0; replace x1 := kept b11 x1; clear b11 hb11 b10 N9 S9 L9 X9 B9 own10 own11)
      have r11' : Nums .u8 w11 a11 257 c11 (enc (madeR ep l) ++ [0]) := by
        show Row _ _ _ _ _ _
        rw [show nums .u8 (enc (madeR ep l) ++ [0]) = nums .u8 (enc (madeR ep l)) ++ [.int .u8 0] by simp [nums]]
        exact r11
      have hlo := read_w' bs _ a11 257 c11 _ _ r11' (fun x hx => by rcases List.mem_append.1 hx with h | h; exact HBY.out x h; simp at h; subst h; decide) (Ev.of_bs S11.out rerr (by decide))
      rw [parse_len (by rw [List.length_append, enc_length]; simp)] at hlo
      refine hlo.mono ?_
      rintro e w12 ⟨rfl, b12⟩
      have bx := b12.trans ((Below.refl w12.heap.size w12).alloc (Nat.le_refl _) (.cells #[.int .i64 0, .slice none 0 0] 73) |>.mono b12.size)
      have L12 := hid (L11.out.below bx)
      have X12 := hid (X11.out.below bx)
      have B12 := hid (B11.out.trans (bx.mono B11.out.size))
      replace x0 := kept bx x0
      replace x1 := kept bx x1
      clear hlo r11 r11' b12 bx N11 S11 L11 X11 B11
      go_wp2_with fail
      go_region_held3 (fun w' => w'.cell? ⟨w5.heap.size, 0, none⟩ = some (.int .i64 (madeR ep l).ep) ∧ w'.cell? ⟨w5.heap.size, 1, none⟩ = some (.slice ax (madeR ep l).rs.length cx))
        (first | exact ⟨x0, x1⟩ | exact ⟨kept b13 x0, kept b13 x1⟩ | exact ⟨kept b14 (kept b13 x0), kept b14 (kept b13 x1)⟩ | go_keep)
        (first
          | (go_at_call 43; refine (made_w ep a j cap l _ (L12.out.below (Below.refl _ _).drew) (by omega)).mono ?_; rintro e w13 ⟨⟨am, cm, rfl, hM⟩, b13⟩)
          | (go_at_call 46; refine (same_w (madeR ep l) (madeR ep l) ax am cx cm w13 ((X12.out.below (Below.refl _ _).drew).below b13) hM).mono ?_; rintro e w14 ⟨rfl, b14⟩; rw [decide_eq_true rfl]))
      have B14 := ((B12.out.drew).trans (b13.mono B12.out.size)).trans (b14.mono (Nat.le_trans B12.out.size b13.size))
      clear b13 b14 hM L12 X12 B12
      go_wp2_with fail
      go_ret
      exact ⟨rfl, B14⟩
theorem walk (a0 : Int) (a1 : Option Addr) (len1 cap1 : Nat) (z1 : List Int) (a2 : Int) (w : World) (hA : Err.All w gl) (w0 : (Lit.int .i64 a0).wf = true) (w1 : IsRow .i64 w a1 len1 cap1 z1) (w2 : (Lit.int .i64 a2).wf = true) :
    Calls Tryd.prog 9 #[.int .i64 a0, .slice a1 len1 cap1, .int .i64 a2] w fun e w' => e = .returned (.bool true) ∧ Below w.heap.size w w' := by
  obtain ⟨bs, hB⟩ := bs_of hA
  obtain ⟨l, hl, hx⟩ := is_of w1
  by_cases h : 30 < len1
  · exact long a0 a1 len1 cap1 a2 bs w (Ev.of_bs hB six (by decide)) h
  · cases hk : amiss (madeR a0 l) with
    | none => exact good a0 a1 len1 cap1 l a2 bs w hB hl (by omega) ((good_iff _).1 hk) (int_of w2)
    | some k => exact bad a0 a1 len1 cap1 l a2 bs w hB hl (by omega) k hk
end Go.Proofs.YtjecnjgngahmfaaDoor.rootBytes
