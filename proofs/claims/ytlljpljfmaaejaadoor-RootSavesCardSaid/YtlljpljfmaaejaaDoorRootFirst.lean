/- The chapter's example on roots (6). -/
import Derived.Test.YtlljpljfmaaejaaDoorRootDev
import Derived.Test.YtlljpljfmaaejaaDoorRootMade
namespace Go.Proofs.YtlljpljfmaaejaaDoor.RootW
open Go Go.RowKit Go.Maps Go.Proofs.YtlljpljfmaaejaaDoor.Mem Go.Proofs.YtlljpljfmaaejaaDoor.MapsW Go.Proofs.YtlljpljfmaaejaaDoor.RootP Go.Proofs.YtlljpljfmaaejaaDoor.SeeW Go.Proofs.YtlljpljfmaaejaaDoor.RefsW Go.Proofs.YtlljpljfmaaejaaDoor.DevG Go.Proofs.YtlljpljfmaaejaaDoor.Ints
set_option linter.unusedVariables false
set_option maxRecDepth 100000

theorem new_best (b : Nat) : bestOf (Dv.new b) (GeoW.half b) = ⟨0, []⟩ := best_none fun s _ => by
  unfold oneOf
  rw [Dv.new_read]
  exact parse_zeros
/-- a save told well -/
theorem save_good (bs : List Addr) (d lo n : Nat) (m : Mp) (D : Dv) (r : Rt) (a : Option Addr) (c : Nat) (w : World) (h : At w lo d n m D) (hi : D.Idle) (hB : Ev w lo bs six) (hb1 : 300 ≤ D.blocks) (hb2 : D.blocks ≤ 6000) (hl : Refs w a r.rs.length c r.rs) (hg : RootP.Good r) (hs : ∀ x ∈ r.rs, x.2 < 4294967296)
    (hn : n < 10000) (hc : D.calls < 900000) :
    Calls Tryd.prog 69 #[ptr d, Rv r.ep a r.rs.length c] w fun e w' => e = .returned .nilIface ∧ ∃ m', At w' lo d (n + 8) m' (D.saved (GeoW.half D.blocks) r.ep.toNat (enc r)) ∧ Turn (own d m) w w' ∧ ∀ x ∈ own d m', x ∈ own d m ∨ w.heap.size ≤ x := by
  obtain ⟨ep, rs⟩ := r
  obtain ⟨e, rfl⟩ := Int.eq_ofNat_of_zero_le (show 0 ≤ ep by have := hg.e1; simp at this; omega)
  have hp := hi.np
  have hf := hi.fuse
  refine (save_w bs d lo n m D e rs a c w h hB hb1 hb2 hl hg hs hn (by omega) hc (by omega)).mono ?_
  rintro en w' ⟨⟨v, hv, rfl⟩, p', hp', h1, ht⟩
  rw [Dv.save_idle hi] at hv h1
  cases hv
  refine ⟨rfl, { m with p := p' }, h1.mono (n' := n + 8) (by omega) (Nat.le_refl _), ht, ?_⟩
  · intro x hx
    simp [own, Mp.list] at hx ⊢
    omega
set_option maxHeartbeats 1600000 in
theorem first_w (bs : List Addr) (w : World) (hB : Ev w w.heap.size bs six) : Calls Tryd.prog 67 #[] w fun e w' => e = .returned (.bool true) ∧ Below w.heap.size w w' := by
  go_enter Tryd.func67, Tryd.ntmps67
  go_wp2_with fail
  refine (new_w 300 _ (by omega) (by omega)).mono ?_
  rintro e w1 ⟨rfl, h1, b1, z1⟩
  go_wp2_with fail
  have hB1 := hB.below b1
  have hl := load_w bs _ _ _ _ _ _ h1 hB1 rfl (by decide) (by decide) (Dv.Idle.new 300).bytes
  rw [show (Dv.new 300).blocks = 300 from rfl, new_best] at hl
  refine hl.mono ?_
  rintro e w2 ⟨⟨a, c, rfl, hR⟩, b2⟩
  have al := (Below.refl w2.heap.size w2).alloc (Nat.le_refl _) (.cells #[.int .i64 0, .slice a 0 c] 98)
  have b3 := b2.trans (al.mono b2.size)
  have h3 := h1.below b3
  have B3 := b1.trans (b3.mono (by omega))
  have hB3 := hB.below B3
  clear hl b2 al b3 hR h1 b1 hB1
  go_wp2_with fail
  refine (made_w 1 none 0 0 [] _ ⟨rfl, Nat.le_refl _, Nat.zero_le _, fun _ => rfl, fun j u h => by simp [ints] at h⟩ (by decide)).mono ?_
  rintro e w4 ⟨⟨a', c', rfl, hR⟩, b4⟩
  have hs := save_good bs _ _ _ _ _ (madeR 1 []) a' c' w4 (h3.below b4) (Dv.Idle.new 300) (hB3.below b4) (by decide) (by decide) hR ((good_iff _).1 (by decide)) (by simp [madeR]) (by decide) (by decide)
  go_wp2_with fail
  refine hs.mono ?_
  rintro e w5 ⟨rfl, m', h5, t5, _⟩
  have B5 := (B3.trans (b4.mono B3.size)).trans ((t5.below (lo := w.heap.size) (by have := B3.size; have := b4.size; omega) (h3.below b4).own_lo))
  clear hs h5 t5 h3 hR b4
  go_wp2_with fail
  go_ret
  exact ⟨rfl, B5⟩
end Go.Proofs.YtlljpljfmaaejaaDoor.RootW
