/- The walk of RootTells. -/
import Derived.Test.YtjecnjgngahmfaaDoorRootFirst
import Derived.Test.YtjecnjgngahmfaaDoorNumWalk
import Derived.Test.YtjecnjgngahmfaaDoorRefTurned
namespace Go.Proofs.YtjecnjgngahmfaaDoor.rootTells
open Go Go.RowKit Go.Maps Go.Proofs.YtjecnjgngahmfaaDoor.Mem Go.Proofs.YtjecnjgngahmfaaDoor.MapsW Go.Proofs.YtjecnjgngahmfaaDoor.RootP Go.Proofs.YtjecnjgngahmfaaDoor.SeeW Go.Proofs.YtjecnjgngahmfaaDoor.RefsW Go.Proofs.YtjecnjgngahmfaaDoor.DevG Go.Proofs.YtjecnjgngahmfaaDoor.Ints Go.Proofs.YtjecnjgngahmfaaDoor.RootW
set_option linter.unusedVariables false
set_option maxRecDepth 100000

theorem sums (ep : Int) (l : List Int) : ∀ x ∈ (madeR ep l).rs, x.2 < 4294967296 := fun x hx => by
  obtain ⟨z, _, rfl⟩ := List.mem_map.1 hx
  exact sumOf_lt z
set_option maxHeartbeats 1600000 in
theorem bad (ep : Int) (a : Option Addr) (n cap : Nat) (l : List Int) (at_ : Int) (t : Nat) (bs : List Addr) (w : World) (hB : Ev w w.heap.size bs six) (hl : Is w a n cap l) (hn : n ≤ 1000000000) (k : Nat) (hk : amiss (madeR ep l) = some k) :
    Calls Tryd.prog 10 #[.int .i64 ep, .slice a n cap, .int .i64 at_, .int .u32 t] w fun e w' => e = .returned (.bool true) ∧ Below w.heap.size w w' := by
  go_enter Tryd.func10, Tryd.ntmps10
  go_wp2_with fail
  refine (first_w bs w hB).mono ?_
  rintro e w1 ⟨rfl, b1⟩
  have hm := made_w ep a n cap l w1 (hl.below b1) hn
  have hB1 := hB.below b1
  clear hl hB
  go_wp2_with fail
  refine hm.mono ?_
  rintro e w2 ⟨⟨a', c', rfl, hR⟩, b2⟩
  have hno := bytes_no bs _ (madeR ep l) a' _ c' w2 hR ((hB1.below b2).sub (by decide)) k hk
  have B2 := b1.trans (b2.mono b1.size)
  clear hm hR b2 hB1
  go_wp2_with fail
  refine hno.mono ?_
  rintro e w3 ⟨⟨x, hx, rfl⟩, b3⟩
  have B3 := B2.trans (b3.mono B2.size)
  clear hno b3
  go_wp2_with fail
  go_ret
  exact ⟨rfl, B3⟩

set_option maxHeartbeats 3200000 in
theorem good (ep : Int) (a : Option Addr) (n cap : Nat) (l : List Int) (at_ : Int) (t : Nat) (bs : List Addr) (w : World) (hB : Ev w w.heap.size bs six) (hl : Is w a n cap l) (hn : n ≤ 1000000000) (hg : RootP.Good (madeR ep l)) (hat : -9223372036854775808 ≤ at_ ∧ at_ ≤ 9223372036854775807) (ht : t < 4294967296) :
    Calls Tryd.prog 10 #[.int .i64 ep, .slice a n cap, .int .i64 at_, .int .u32 t] w fun e w' => e = .returned (.bool true) ∧ Below w.heap.size w w' := by
  have HG := hid hg
  clear hg
  go_enter Tryd.func10, Tryd.ntmps10
  go_wp2_with fail
  refine (first_w bs w hB).mono ?_
  rintro e w1 ⟨rfl, b1⟩
  have L1 := hid (hl.below b1)
  have hm := made_w ep a n cap l w1 L1.out hn
  have hB1 := hB.below b1
  clear hl hB
  go_wp2_with fail
  refine hm.mono ?_
  rintro e w2 ⟨⟨a', c', rfl, hR⟩, b2⟩
  have hB2 := hB1.below b2
  have hby := bytes_ok bs _ (madeR ep l) a' _ c' w2 hR (hB2.sub (by decide)) HG.out (sums ep l)
  have B2 := b1.trans (b2.mono b1.size)
  have L2 := hid (L1.out.below b2)
  clear hm hR b2 hB1 L1
  go_wp2_with fail
  refine hby.mono ?_
  rintro e w3 ⟨⟨v, rfl, own3⟩, b3⟩
  obtain ⟨g, cp, rfl, nb, _⟩ := row_of own3
  have B3 := B2.trans (b3.mono B2.size)
  have L3 := hid (L2.out.below b3)
  have hB3 := hB2.below b3
  clear hby own3 b3 hB2 L2 B2
  go_wp2_with fail
  refine (NumW.number_w at_ 256 _ (by decide) (by decide) hat.1 hat.2).mono ?_
  rintro e w' ⟨rfl, rfl⟩
  have hq1 := Int.emod_nonneg at_ (show (256 : Int) ≠ 0 by decide)
  have hq2 := Int.emod_lt_of_pos at_ (show (0 : Int) < 256 by decide)
  generalize at_ % 256 = q at *
  have hby := enc_bytes (r := madeR ep l) HG.out.n
  have hT := CrcL.rturned_w _ 256 cp _ q t w3 nb hby (by decide) (by omega) (by omega) ht
  go_wp2_with fail
  refine hT.mono ?_
  rintro e w4 ⟨v, rfl, own4, b4⟩
  obtain ⟨g4, c4, rfl, n4, _⟩ := row_of own4
  have B4 := B3.trans (b4.mono B3.size)
  have L4 := hid (L3.out.below b4)
  have hB4 := hB3.below b4
  have N4 := hid (nb.below b4)
  have hr := read_w' bs _ _ 256 _ _ w4 n4 (Crc.turned_bytes hby q t) (hB4.sub (by decide))
  have HTU := hid (parse_turned HG.out (sums ep l) q t)
  have HPA := hid (parse_enc HG.out (sums ep l))
  generalize Crc.turned (enc (madeR ep l)) q t = T at *
  clear hT own4 b4 hB3 L3 B3 nb hby
  go_wp2_with fail
  refine hr.mono ?_
  rintro e w5 ⟨hR5, b5⟩
  have N5 := hid (N4.out.below b5)
  have n5 := n4.below b5
  have L5 := hid (L4.out.below b5)
  have B5 := B4.trans (b5.mono B4.size)
  by_cases hTe : T = enc (madeR ep l)
  · subst hTe
    rw [HPA.out] at hR5
    obtain ⟨ax, cx, rfl, hX, _⟩ := hR5
    have bx := (Below.refl w5.heap.size w5).alloc (Nat.le_refl _) (.cells #[.int .i64 (madeR ep l).ep, .slice ax (madeR ep l).rs.length cx] 73)
    obtain ⟨x0, x1⟩ := new2 w5 (.int .i64 (madeR ep l).ep) (.slice ax (madeR ep l).rs.length cx) 73
    have hsm := RefW.same_w _ 256 c4 _ _ 256 cp _ _ (n5.below bx) (N5.out.below bx)
    rw [decide_eq_true (show enc (madeR ep l) = enc (madeR ep l) from rfl)] at hsm
    have L6 := hid (L5.out.below bx)
    have X6 := hid (hX.below bx)
    have B6 := B5.trans (bx.mono B5.size)
    clear hr b5 hX hB4 L4 L5 B4 B5 n4 n5 N4 N5 bx
    go_wp2_with fail
    refine hsm.mono ?_
    rintro e w6 ⟨rfl, b6⟩
    have L7 := hid (L6.out.below b6)
    have X7 := hid (X6.out.below b6)
    have B7 := B6.trans (b6.mono B6.size)
    replace x0 := kept b6 x0
    replace x1 := kept b6 x1
    clear hsm b6 L6 X6 B6
    go_wp2_with fail
    go_region_held3 (fun w' => w'.cell? ⟨w5.heap.size, 0, none⟩ = some (.int .i64 (madeR ep l).ep) ∧ w'.cell? ⟨w5.heap.size, 1, none⟩ = some (.slice ax (madeR ep l).rs.length cx))
      (first | exact ⟨x0, x1⟩ | exact ⟨kept b13 x0, kept b13 x1⟩ | exact ⟨kept b14 (kept b13 x0), kept b14 (kept b13 x1)⟩ | go_keep)
      (first
        | (go_at_call 43; refine (made_w ep a n cap l _ (L7.out.below (Below.refl _ _).drew) hn).mono ?_; rintro e w13 ⟨⟨am, cm, rfl, hM⟩, b13⟩)
        | (go_at_call 46; refine (same_w (madeR ep l) (madeR ep l) ax am cx cm w13 ((X7.out.below (Below.refl _ _).drew).below b13) hM).mono ?_; rintro e w14 ⟨rfl, b14⟩; rw [decide_eq_true rfl]))
    have B14 := ((B7.drew).trans (b13.mono B7.size)).trans (b14.mono (Nat.le_trans B7.size b13.size))
    clear b13 b14 hM L7 X7 B7
    go_wp2_with fail
    go_ret
    exact ⟨rfl, B14⟩
  · rw [HTU.out hTe] at hR5
    simp only at hR5
    subst hR5
    have bx := (Below.refl w5.heap.size w5).alloc (Nat.le_refl _) (.cells #[.int .i64 0, .slice none 0 0] 73)
    have hsm := RefW.same_w _ 256 c4 _ _ 256 cp _ _ (n5.below bx) (N5.out.below bx)
    have B6 := B5.trans (bx.mono B5.size)
    rw [decide_eq_false hTe] at hsm
    clear hr b5 hB4 L4 L5 B4 B5 n4 n5 N4 N5 bx hTe
    go_wp2_with fail
    refine hsm.mono ?_
    rintro e w6 ⟨rfl, b6⟩
    have B7 := B6.trans (b6.mono B6.size)
    clear hsm b6
    go_wp2_with fail
    go_ret
    exact ⟨rfl, B7⟩
theorem walk (a0 : Int) (a1 : Option Addr) (len1 cap1 : Nat) (z1 : List Int) (a2 a3 : Int) (w : World) (hE : Err.All w [4, 0, 5, 1, 3, 2]) (w0 : (Lit.int .i64 a0).wf = true) (w1 : IsRow .i64 w a1 len1 cap1 z1) (w2 : (Lit.int .i64 a2).wf = true) (w3 : (Lit.int .u32 a3).wf = true) (small : len1 ≤ 1048576) :
    Calls Tryd.prog 10 #[.int .i64 a0, .slice a1 len1 cap1, .int .i64 a2, .int .u32 a3] w fun e w' => e = .returned (.bool true) ∧ Below w.heap.size w w' := by
  obtain ⟨bs, hB⟩ := Ev.of_all hE six rfl (by decide)
  obtain ⟨l, hl, hx⟩ := is_of w1
  obtain ⟨h0, h1⟩ := nat_of (k := .u32) rfl w3
  obtain ⟨t, rfl⟩ := Int.eq_ofNat_of_zero_le h0
  cases hk : amiss (madeR a0 l) with
  | none => exact good a0 a1 len1 cap1 l a2 t bs w hB hl (by omega) ((good_iff _).1 hk) (int_of w2) (by simpa [IntKind.bits] using h1)
  | some k => exact bad a0 a1 len1 cap1 l a2 t bs w hB hl (by omega) k hk
end Go.Proofs.YtjecnjgngahmfaaDoor.rootTells
