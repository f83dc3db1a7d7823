/- The walks of breviarylaw6's made and same. -/
import Derived.Test.YtlljpljfmaaejaaDoorRootRead
import Derived.Test.YtlljpljfmaaejaaDoorRefSame
import Derived.Test.YtlljpljfmaaejaaDoorIntsRow
namespace Go.Proofs.YtlljpljfmaaejaaDoor.RootW
open Go Go.RowKit Go.Maps Go.Proofs.YtlljpljfmaaejaaDoor.Mem Go.Proofs.YtlljpljfmaaejaaDoor.MapsW Go.Proofs.YtlljpljfmaaejaaDoor.RootP Go.Proofs.YtlljpljfmaaejaaDoor.SeeW Go.Proofs.YtlljpljfmaaejaaDoor.RefsW Go.Proofs.YtlljpljfmaaejaaDoor.DevG Go.Proofs.YtlljpljfmaaejaaDoor.Ints
set_option linter.unusedVariables false
set_option maxRecDepth 100000

def sumOf (z : Int) : Nat := (IntKind.u32.wrap (IntKind.u32.wrap z * 2654435761)).toNat
def refOf (z : Int) : Int × Nat := (z, sumOf z)
/-- a root of an epoch, and of places -/
def madeR (ep : Int) (l : List Int) : Rt := ⟨ep, l.map refOf⟩
theorem wrap_in (x : Int) : 0 ≤ IntKind.u32.wrap x ∧ IntKind.u32.wrap x < 4294967296 := by
  rw [IntKind.wrap_u32]; omega
theorem sumOf_cast (z : Int) : ((sumOf z : Nat) : Int) = IntKind.u32.wrap (IntKind.u32.wrap z * 2654435761) := Int.toNat_of_nonneg (wrap_in _).1
theorem sumOf_lt (z : Int) : sumOf z < 4294967296 := by
  have h := (wrap_in (IntKind.u32.wrap z * 2654435761)).2
  rw [← sumOf_cast] at h
  omega
theorem map_take_succ {l : List Int} {k : Nat} (h : k < l.length) : (l.take (k + 1)).map refOf = (l.take k).map refOf ++ [(l[k], sumOf l[k])] := by
  rw [List.take_succ_eq_append_getElem h, List.map_append]; rfl
def MadeTo (w : World) (r : Rt) (e : Ending) (w' : World) : Prop :=
  (∃ a c, e = .returned (Rv r.ep a r.rs.length c) ∧ Refs w' a r.rs.length c r.rs) ∧ Below w.heap.size w w'
theorem out_made {w w4 : World} {r : Rt} {k : Nat} {ep : Int} {cp : Nat} {a : Option Addr} (h1 : r.ep = ep) (h2 : r.rs.length = k) (h3 : Refs w4 a k cp r.rs) (h4 : Below w.heap.size w w4) (h5 : ∀ b o, a = some ⟨b, o, none⟩ → w.heap.size < b) (x y : Value) :
    MadeTo w r (.returned (Rv ep a k cp)) ((w4.setCell ⟨w.heap.size, 0, none⟩ x).setCell ⟨w.heap.size, 1, none⟩ y) := by
  subst h2
  refine ⟨⟨a, cp, by rw [h1], Refs.far (Refs.far h3 h5 0 x) h5 1 y⟩, (h4.setCell (Nat.le_refl _) _).setCell (Nat.le_refl _) _⟩
set_option maxHeartbeats 3200000 in
theorem made_w (ep : Int) (a : Option Addr) (n cap : Nat) (l : List Int) (w : World) (h : Is w a n cap l) (hn : n ≤ 1000000000) :
    Calls Tryd.prog 70 #[.int .i64 ep, .slice a n cap] w (MadeTo w (madeR ep l)) := by
  have HL := hid h.len
  obtain ⟨c1, c2⟩ := h.bound
  have bx := (Below.refl w.heap.size w).alloc (Nat.le_refl _) (.cells #[.int .i64 0, .slice none 0 0] 98)
  have z1 : (w.alloc (.cells #[.int .i64 0, .slice none 0 0] 98)).heap.size = w.heap.size + 1 := by simp
  have h2 : Rounds w ((w.alloc (.cells #[.int .i64 0, .slice none 0 0] 98)).alloc (.cells #[.int .i64 ep, .slice none 0 0] 98)) (w.heap.size + 1) ep (.slice none 0 0) 0 [] :=
    ⟨by rw [((Below.refl _ _).alloc (Nat.le_refl _) _).block _ (by omega)]; exact heap_alloc_new _ _, by rw [← z1]; exact heap_alloc_new _ _, World.ownsRow_nil _ _ _ _, bx.alloc (by omega) _, by omega⟩
  clear z1 bx
  go_enter Tryd.func70, Tryd.ntmps70
  go_wp2_with fail
  generalize (w.alloc (.cells #[.int .i64 0, .slice none 0 0] 98)).alloc (.cells #[.int .i64 ep, .slice none 0 0] 98) = w2 at *
  go_loopw [6] (fun i wr => ∃ (k : Nat) (v : Value), k ≤ n ∧ i = .int .i64 k ∧ Rounds w wr (w.heap.size + 1) ep v k ((l.take k).map refOf)) (fun i _ => n - (intOf i).toNat)
  case atStart => exact ⟨0, _, by omega, rfl, h2⟩
  case round =>
    clear h2
    obtain ⟨k, v, hk, rfl, hr⟩ := hrel
    obtain ⟨q0, q1, qf, qlt⟩ := hr.c
    by_cases hlt : k < n
    · have hkl : k < l.length := by rw [HL.out]; exact hlt
      obtain ⟨b0, o0, rfl, hc⟩ := (h.below hr.b).at hkl
      have hb0 : b0 < w.heap.size := by
        obtain ⟨b', o', e, hc'⟩ := h.at hkl
        cases e
        exact World.block_lt_of_cell? w _ hc'
      have HS := hid (map_take_succ hkl)
      generalize l[k] = y at hc HS
      have HC := hid (sumOf_cast y)
      go_wp2_with fail
      go_region_law
        ((first
          | (refine step_push2 rfl _ _ rfl (w.heap.size + 2) v k _ rfl (by first | exact World.ownsRow.alloc (World.ownsRow.drew hr.own) _ | exact World.ownsRow.alloc hr.own _) _ y (sumOf y) rfl (by rw [HC.out]; exact Row.fresh2 _ _ _ _) (by omega) (by simp <;> omega) ?_; intro g1 cap1 w1 own1 hb1 hg1; have t1 := keep hb1 (kept (Below.alloc (Below.drew (Below.refl wr.heap.size wr)) (by simp) (.cells #[.int .i64 y, .int .u32 (IntKind.u32.wrap (IntKind.u32.wrap y * 2654435761))] 68)) q1) (by omega); have t2 := (frozen_keep (o := 1) hb1 (Nat.lt_succ_self _)).trans ((frozen_keep (B := wr.heap.size) (Below.alloc (Below.drew (Below.refl _ _)) (by simp) _) qlt).trans qf); have t3 := keep hb1 (kept (Below.alloc (Below.drew (Below.refl wr.heap.size wr)) (by simp) (.cells #[.int .i64 y, .int .u32 (IntKind.u32.wrap (IntKind.u32.wrap y * 2654435761))] 68)) hc) (by omega))))
      all_goals
        go_wp2
        go_roundw
        case rel => exact ⟨k + 1, _, by omega, by go_num, by rw [HS.out]; exact hr.push _ own1 hb1⟩
        case measure => simp [intOf]; omega
    · obtain rfl : k = n := by omega
      rw [List.take_of_length_le (by rw [HL.out]; omega)] at hr
      obtain ⟨a', cp, rfl, hR⟩ := refs_of hr.own
      have z0 : w.heap.size < wr.heap.size := by omega
      obtain ⟨x0, x1, y0, y1⟩ := blk_c hr.blk0
      obtain ⟨x2, x3, y2, y3⟩ := blk_c hr.blk
      have HO := hid (out_made (r := madeR ep l) (ep := ep) (k := k) (w4 := wr) rfl (by simp [madeR]; exact HL.out) hR hr.b (fun b o e => by have := own_ge hr.own b o e; omega))
      clear hr hR h
      go_wp2
      refine bodyPost_ret (v := Rv ep a' k cp) (by simp [results, Tryd.results70, go_sem, x0, x1]) rfl (HO.out _ _)

theorem same_w (r s : Rt) (a b : Option Addr) (c c' : Nat) (w : World) (h1 : Refs w a r.rs.length c r.rs) (h2 : Refs w b s.rs.length c' s.rs) :
    Calls Tryd.prog 73 #[Rv r.ep a r.rs.length c, Rv s.ep b s.rs.length c'] w fun e w' => e = .returned (.bool (decide (r = s))) ∧ Below w.heap.size w w' := by
  have b1 := (Below.refl w.heap.size w).alloc (Nat.le_refl _) (.cells #[.int .i64 r.ep, .slice a r.rs.length c] 98)
  have b2 := b1.alloc (by simp) (.cells #[.int .i64 s.ep, .slice b s.rs.length c'] 98)
  obtain ⟨x0, x1⟩ := new2 w (.int .i64 r.ep) (.slice a r.rs.length c) 98
  have hs := fun w h1 h2 => refs_w a r.rs.length c r.rs b s.rs.length c' s.rs w h1 h2
  replace hs := hs _ (h1.below b2) (h2.below b2)
  clear h1 h2
  by_cases h : r.ep = s.ep
  · have he : decide (r = s) = decide (r.rs = s.rs) := by
      rw [Bool.eq_iff_iff]; simp only [decide_eq_true_eq]
      cases r; cases s; simp at h ⊢; intro; exact h
    rw [he]
    clear he
    have hd : (r.ep == s.ep) = true := by rw [beq_iff_eq]; exact h
    clear h
    go_enter Tryd.func73, Tryd.ntmps73
    go_wp2_with fail
    refine hs.mono ?_
    rintro e w3 ⟨rfl, b3⟩
    go_wp2_with fail
    go_ret
    exact ⟨rfl, b2.trans (b3.mono (by simp; omega))⟩
  · have he : decide (r = s) = false := by
      rw [decide_eq_false_iff_not]; intro e; exact h (by rw [e])
    rw [he]
    have hd : (r.ep == s.ep) = false := by rw [beq_eq_false_iff_ne]; exact h
    clear h he
    go_enter Tryd.func73, Tryd.ntmps73
    go_wp2_with fail
    go_ret
    exact ⟨rfl, b2⟩
end Go.Proofs.YtlljpljfmaaejaaDoor.RootW
