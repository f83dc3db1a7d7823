/- The walks of root.Load and root.Copies. -/
import Derived.Test.YtlljpljfmaaejaaDoorRootFound
namespace Go.Proofs.YtlljpljfmaaejaaDoor.RootW
open Go Go.RowKit Go.Maps Go.Proofs.YtlljpljfmaaejaaDoor.Mem Go.Proofs.YtlljpljfmaaejaaDoor.MapsW Go.Proofs.YtlljpljfmaaejaaDoor.RootP Go.Proofs.YtlljpljfmaaejaaDoor.SeeW Go.Proofs.YtlljpljfmaaejaaDoor.RefsW Go.Proofs.YtlljpljfmaaejaaDoor.DevG Go.Proofs.YtlljpljfmaaejaaDoor.ConcatW
set_option linter.unusedVariables false
set_option maxRecDepth 100000

/-- what is loaded -/
def LoadTo (w : World) (b : Rt) (e : Ending) (w' : World) : Prop :=
  (∃ a c, e = .returned (.tuple #[Rv b.ep a b.rs.length c, .bool (decide (0 < b.ep)), .nilIface]) ∧ Refs w' a b.rs.length c b.rs) ∧ Below w.heap.size w w'
theorem out_load {w w4 : World} {r : Rt} {cp : Nat} {a : Option Addr} (h3 : Refs w4 a r.rs.length cp r.rs) (h4 : Below w.heap.size w w4) (h5 : ∀ b o, a = some ⟨b, o, none⟩ → w.heap.size < b) (x y : Value) :
    LoadTo w r (.returned (.tuple #[Rv r.ep a r.rs.length cp, .bool (decide (0 < r.ep)), .nilIface])) ((w4.setCell ⟨w.heap.size, 0, none⟩ x).setCell ⟨w.heap.size, 1, none⟩ y) :=
  ⟨⟨a, cp, rfl, Refs.far (Refs.far h3 h5 0 x) h5 1 y⟩, (h4.setCell (Nat.le_refl _) _).setCell (Nat.le_refl _) _⟩
theorem drew_load {w w' : World} {b : Rt} {e : Ending} (h : LoadTo w b e w') : LoadTo w b e w'.drew := by
  obtain ⟨⟨a, c, e, h⟩, hb⟩ := h
  exact ⟨⟨a, c, e, h.below (Below.refl _ _).drew⟩, hb.drew⟩
set_option maxHeartbeats 1600000 in
theorem load_w (bs : List Addr) (d lo n : Nat) (m : Mp) (D : Dv) (w : World) (h : At w lo d n m D) (hB : Ev w lo bs six) (hu : D.down = false) (hb1 : 300 ≤ D.blocks) (hb2 : D.blocks ≤ 6000) (hbt : ∀ i l, D.read i = some l → Crc.Bytes l) :
    Calls Tryd.prog 71 #[ptr d] w (LoadTo w (bestOf D (GeoW.half D.blocks))) := by
  have bx := (Below.refl w.heap.size w).alloc (Nat.le_refl _) (.cells #[.int .i64 0, .slice none 0 0] 98)
  have hk0 := heap_alloc_new w (.cells #[.int .i64 0, .slice none 0 0] 98)
  have hf := found_w bs d lo n m D _ (h.below bx) (hB.below bx) hu hb1 hb2 hbt
  generalize bestOf D (GeoW.half D.blocks) = b at *
  clear h hB hbt
  go_enter Tryd.func71, Tryd.ntmps71
  go_wp2_with fail
  refine hf.mono ?_
  rintro e w1 ⟨⟨a, c, rfl, hR, hfar⟩, b1⟩
  have s1 := b1.size
  have k1 := (b1.block w.heap.size (by simp)).trans hk0
  have B1 := bx.trans (b1.mono (by simp))
  have al := (Below.refl w1.heap.size w1).alloc (Nat.le_refl _) (.cells #[.int .i64 b.ep, .slice a b.rs.length c] 98)
  obtain ⟨t0, t1⟩ := new2 w1 (.int .i64 b.ep) (.slice a b.rs.length c) 98
  obtain ⟨x0, x1, y0, y1⟩ := blk_c (al_old k1 (.cells #[.int .i64 b.ep, .slice a b.rs.length c] 98))
  have HO := hid (out_load (w := w) (hR.below al) (B1.trans (al.mono (by simp at s1; omega))) (fun g o e => by have := hfar g o e; simp at this; omega))
  have hne1 : w1.heap.size ≠ w.heap.size := by simp at s1; omega
  have hne2 : w.heap.size ≠ w1.heap.size := fun e => hne1 e.symm
  clear hf bx hk0 hR hfar b1 k1 B1 al
  go_wp2_with fail
  go_region
  all_goals
    go_wp2
    refine bodyPost_ret (v := .tuple #[Rv b.ep a b.rs.length c, .bool (decide (0 < b.ep)), .nilIface]) (by simp [results, Tryd.results71, go_sem, x0, x1]) rfl (drew_load (HO.out _ _))

/-- has a block the root of an epoch? -/
def hasEp (D : Dv) (ep : Nat) (i : Nat) : Bool := match oneOf D i with
  | some r => decide (r.ep = ep)
  | none => false
abbrev pair (H ep : Nat) : List Nat := [ep % 2, ep % 2 + H]
def copiesUp (D : Dv) (H ep k : Nat) : Nat := ((pair H ep).take k).countP (hasEp D ep)
/-- how many of its two blocks have a root -/
def copies (D : Dv) (H ep : Nat) : Nat := copiesUp D H ep 2
theorem copiesUp_succ (D : Dv) (H ep k : Nat) (hk : k < (pair H ep).length) : copiesUp D H ep (k + 1) = copiesUp D H ep k + (if hasEp D ep (pair H ep)[k] then 1 else 0) := by
  unfold copiesUp
  rw [List.take_succ_eq_append_getElem hk, List.countP_append, List.countP_cons, List.countP_nil]
  simp
theorem copiesUp_le (D : Dv) (H ep k : Nat) : copiesUp D H ep k ≤ 2 := by
  unfold copiesUp
  refine Nat.le_trans List.countP_le_length ?_
  rw [List.length_take]; simp; omega
set_option maxHeartbeats 3200000 in
theorem copies_w (bs : List Addr) (d lo n : Nat) (m : Mp) (D : Dv) (w : World) (h : At w lo d n m D) (hB : Ev w lo bs six) (hu : D.down = false) (hb1 : 300 ≤ D.blocks) (hb2 : D.blocks ≤ 6000) (hbt : ∀ i l, D.read i = some l → Crc.Bytes l) (ep : Nat) (hep : (bestOf D (GeoW.half D.blocks)).ep = ep) (h0 : 0 < ep) (h40 : ep ≤ 1099511627776) :
    Calls Tryd.prog 72 #[ptr d] w fun e w' => e = .returned (.tuple #[.int .i64 (copies D (GeoW.half D.blocks) ep : Nat), .nilIface]) ∧ Below w.heap.size w w' := by
  have hf := found_w bs d lo n m D _ h hB hu hb1 hb2 hbt
  obtain ⟨H, hH⟩ : ∃ H, H = GeoW.half D.blocks := ⟨_, rfl⟩
  have hH1 := GeoW.half_le D.blocks
  have hH2 := GeoW.half_512 D.blocks
  have hof := fun w => GeoW.of_good D.blocks w hb1 hb2
  rw [← hH] at hH1 hH2 hf hep ⊢
  simp only [← hH] at hof
  clear hH
  generalize bestOf D H = b at hf hep
  have he0 : ((ep : Int) == 0) = false := by rw [beq_eq_false_iff_ne]; omega
  obtain ⟨bep, brs⟩ := b
  simp only at hep
  subst hep
  go_enter Tryd.func72, Tryd.ntmps72
  go_wp2_with fail
  refine hf.mono ?_
  rintro e w1 ⟨⟨a, c, rfl, hR, hfar⟩, b1⟩
  have al := (Below.refl w1.heap.size w1).alloc (Nat.le_refl _) (.cells #[.int .i64 (ep : Int), .slice a brs.length c] 98)
  obtain ⟨t0, t1⟩ := new2 w1 (.int .i64 (ep : Int)) (.slice a brs.length c) 98
  have B2 := b1.trans (al.mono b1.size)
  clear hf hR hfar al
  go_wp2_with fail
  refine (blocks_w d lo n m D _ (h.below B2)).mono ?_
  rintro e w' ⟨rfl, rfl⟩
  go_wp2_with fail
  refine (hof _).mono ?_
  rintro e w2 ⟨rfl, b2⟩
  have B3 := B2.trans (b2.mono B2.size)
  replace t0 := kept b2 t0
  have al := (Below.refl w2.heap.size w2).alloc (Nat.le_refl _) (.cells #[.int .i64 (D.blocks : Int), .int .i64 (H : Int)] 127)
  obtain ⟨g0, g1⟩ := new2 w2 (.int .i64 (D.blocks : Int)) (.int .i64 (H : Int)) 127
  replace t0 := kept al t0
  have B4 := B3.trans (al.mono B3.size)
  clear b1 b2 al B2 B3 hof t1
  go_wp2_with fail
  refine (places_w D.blocks H ep _ h40 (by omega)).mono ?_
  rintro e w3 ⟨gp, rfl, np, b3, fp⟩
  have B5 := B4.trans (b3.mono B4.size)
  replace t0 := kept b3 t0
  clear g0 g1 B4 b3 fp
  go_wp2_with fail
  go_loopw [7, 40] (fun cn i wr => ∃ k : Nat, k ≤ 2 ∧ i = .int .i64 k ∧ cn = .int .i64 (copiesUp D H ep k) ∧ Below w3.heap.size w3 wr) (fun _ i _ => 2 - (intOf i).toNat)
  case atStart => exact ⟨0, by omega, rfl, rfl, Below.refl _ _⟩
  case round =>
    obtain ⟨k, hk, rfl, rfl, hb⟩ := hrel
    have hle := copiesUp_le D H ep k
    by_cases hlt : k < 2
    · have hkl : k < (pair H ep).length := hlt
      obtain ⟨bq, oq, e, hc⟩ := (np.below hb).at hkl
      cases e
      have HS := hid (copiesUp_succ D H ep k hkl)
      have hin : (pair H ep)[k] < D.blocks := by
        have : ∀ x ∈ pair H ep, x < D.blocks := by simp [pair]; omega
        exact this _ (List.getElem_mem hkl)
      generalize (pair H ep)[k] = x at hc HS hin
      have hfx : Fits (x : Int) := fits_nat (by omega)
      have ho := one_w bs d lo n m D x wr (h.below (B5.trans (hb.mono B5.size))) (hB.below (B5.trans (hb.mono B5.size))) hfx hu (by omega) (hbt _)
      generalize copiesUp D H ep k = cn at *
      replace t0 := kept hb t0
      rw [Nat.zero_add] at hc
      go_wp2_with fail
      refine ho.mono ?_
      rintro e w6 ⟨hO, b6⟩
      have c6 := hb.trans (b6.mono hb.size)
      replace t0 := kept b6 t0
      cases ho1 : oneOf D x with
      | none =>
        rw [ho1] at hO
        simp only at hO
        subst hO
        have HH := hid (show hasEp D ep x = false by unfold hasEp; rw [ho1])
        have HC := hid (c6.alloc c6.size (.cells #[.int .i64 0, .slice none 0 0] 98))
        clear ho hc hb b6 c6 ho1
        go_wp2_with fail
        go_roundw
        case rel => exact ⟨k + 1, by omega, by go_num, by rw [HS.out, HH.out]; simp, HC.out⟩
        case measure => simp [intOf]; omega
      | some r =>
        rw [ho1] at hO
        obtain ⟨a', c', rfl, hR, hfr⟩ := hO
        have HC := hid (c6.alloc c6.size (.cells #[.int .i64 r.ep, .slice a' r.rs.length c'] 98))
        obtain ⟨x0, x1⟩ := new2 w6 (.int .i64 r.ep) (.slice a' r.rs.length c') 98
        replace t0 := kept ((Below.refl w6.heap.size w6).alloc (Nat.le_refl _) (.cells #[.int .i64 r.ep, .slice a' r.rs.length c'] 98)) t0
        by_cases hre : r.ep = ep
        · have HH := hid (show hasEp D ep x = true by unfold hasEp; rw [ho1]; exact decide_eq_true hre)
          have hd : (r.ep == (ep : Int)) = true := by rw [beq_iff_eq]; exact hre
          clear ho hc hb b6 c6 ho1 hR hfr hre
          go_wp2_with fail
          go_roundw
          case rel => exact ⟨k + 1, by omega, by go_num, by rw [HS.out, HH.out]; go_num, HC.out⟩
          case measure => simp [intOf]; omega
        · have HH := hid (show hasEp D ep x = false by unfold hasEp; rw [ho1]; exact decide_eq_false hre)
          have hd : (r.ep == (ep : Int)) = false := by rw [beq_eq_false_iff_ne]; exact hre
          clear ho hc hb b6 c6 ho1 hR hfr hre
          go_wp2_with fail
          go_roundw
          case rel => exact ⟨k + 1, by omega, by go_num, by rw [HS.out, HH.out]; simp, HC.out⟩
          case measure => simp [intOf]; omega
    · obtain rfl : k = 2 := by omega
      have HB := hid (show copiesUp D H ep 2 = copies D H ep from rfl)
      generalize copiesUp D H ep 2 = cn at *
      go_wp2_with fail
      refine bodyPost_ret (v := .tuple #[.int .i64 cn, .nilIface]) (by simp [results, Tryd.results72, go_sem]) rfl ⟨by rw [← HB.out], B5.trans (hb.mono B5.size)⟩
end Go.Proofs.YtlljpljfmaaejaaDoor.RootW
