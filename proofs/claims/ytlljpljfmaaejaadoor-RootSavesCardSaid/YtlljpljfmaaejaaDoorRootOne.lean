/- The walk of root.one. -/
import Derived.Test.YtlljpljfmaaejaaDoorRootRead
import Derived.Test.YtlljpljfmaaejaaDoorGDevMore
import Derived.LaidEql
import Derived.LaidEqlPtr
namespace Go.Proofs.YtlljpljfmaaejaaDoor.RootW
open Go Go.RowKit Go.Maps Go.Proofs.YtlljpljfmaaejaaDoor.Mem Go.Proofs.YtlljpljfmaaejaaDoor.MapsW Go.Proofs.YtlljpljfmaaejaaDoor.RootP Go.Proofs.YtlljpljfmaaejaaDoor.SeeW Go.Proofs.YtlljpljfmaaejaaDoor.RefsW Go.Proofs.YtlljpljfmaaejaaDoor.DevG
set_option linter.unusedVariables false
set_option maxRecDepth 100000

/-- a root's errors, and a device's -/
abbrev six : List Nat := [1, 2, 3, 4, 5, 6]
/-- the root that a block has -/
def oneOf (D : Dv) (i : Int) : Option Rt := (D.read i).bind parse
/-- what is found of a block: a root, or none -/
def OneTo (w : World) (r : Option Rt) (e : Ending) (w' : World) : Prop := (match r with
  | some r => ∃ a cap, e = .returned (.tuple #[Rv r.ep a r.rs.length cap, .bool true, .nilIface]) ∧ Refs w' a r.rs.length cap r.rs ∧ ∀ b o, a = some ⟨b, o, none⟩ → w.heap.size ≤ b
  | none => e = .returned (.tuple #[Rv 0 none 0 0, .bool false, .nilIface])) ∧ Below w.heap.size w w'
theorem out_one {w w4 : World} {r : Rt} {cp : Nat} {a : Option Addr} (h3 : Refs w4 a r.rs.length cp r.rs) (h4 : Below w.heap.size w w4) (h5 : ∀ b o, a = some ⟨b, o, none⟩ → w.heap.size < b) (x y : Value) :
    OneTo w (some r) (.returned (.tuple #[Rv r.ep a r.rs.length cp, .bool true, .nilIface])) ((w4.setCell ⟨w.heap.size, 0, none⟩ x).setCell ⟨w.heap.size, 1, none⟩ y) :=
  ⟨⟨a, cp, rfl, Refs.far (Refs.far h3 h5 0 x) h5 1 y, fun b o e => Nat.le_of_lt (h5 b o e)⟩, (h4.setCell (Nat.le_refl _) _).setCell (Nat.le_refl _) _⟩
theorem out_onone {w w4 : World} (h4 : Below w.heap.size w w4) (x y : Value) :
    OneTo w none (.returned (.tuple #[Rv 0 none 0 0, .bool false, .nilIface])) ((w4.setCell ⟨w.heap.size, 0, none⟩ x).setCell ⟨w.heap.size, 1, none⟩ y) :=
  ⟨rfl, (h4.setCell (Nat.le_refl _) _).setCell (Nat.le_refl _) _⟩
theorem al_old {w : World} {o' : Obj} {k : Nat} (h : w.heap[k]? = some o') (o : Obj) : (w.alloc o).heap[k]? = some o' := by
  rw [((Below.refl w.heap.size w).alloc (Nat.le_refl _) o).block k (Array.getElem?_eq_some_iff.1 h).1]; exact h
set_option maxHeartbeats 1600000 in
theorem one_w (bs : List Addr) (d lo n : Nat) (m : Mp) (D : Dv) (i : Int) (w : World) (h : At w lo d n m D) (hB : Ev w lo bs six) (hf : Fits i) (hu : D.down = false) (hi : 0 ≤ i ∧ i < D.blocks) (hbt : ∀ l, D.read i = some l → Crc.Bytes l) :
    Calls Tryd.prog 109 #[ptr d, .int .i64 i] w (OneTo w (oneOf D i)) := by
  have bx := (Below.refl w.heap.size w).alloc (Nat.le_refl _) (.cells #[.int .i64 0, .slice none 0 0] 98)
  have hk0 := heap_alloc_new w (.cells #[.int .i64 0, .slice none 0 0] 98)
  have hzx : (w.alloc (.cells #[.int .i64 0, .slice none 0 0] 98)).heap.size = w.heap.size + 1 := by simp
  have hr := read_up bs d lo n m D i _ (h.below bx) ((hB.below bx).sub (by decide)) hf hu hi
  obtain ⟨aI, haI, hAI⟩ := (hB.below bx).get 6 _ (by decide) rfl
  have hBx := hB.below bx
  have HZ := hid hzx
  have HX := hid bx
  clear h hB bx hzx
  unfold oneOf
  cases hD : D.read i with
  | some l =>
    rw [hD] at hr
    have hb := hbt l hD
    show Calls _ _ _ w (OneTo w (parse l))
    go_enter Tryd.func109, Tryd.ntmps109
    go_wp2_with fail
    refine hr.mono ?_
    rintro e w1 ⟨⟨g, cap, rfl, hn, hg⟩, hb1⟩
    have hA1 := (hAI.below hb1).1
    have he := fun w => run_eql_iface_nil_left (P := Tryd.prog) (w := w) Err.tp (.pointer (some aI)) Tryd.underlying26
    have hB1 := hBx.below hb1
    have k1 := (hb1.block w.heap.size (by rw [HZ.out]; omega)).trans hk0
    have B1 := HX.out.trans (hb1.mono (by rw [HZ.out]; omega))
    have z1 := hb1.size
    rw [HZ.out] at z1
    have s1 : w.heap.size < w1.heap.size := by omega
    clear hr hAI hk0 hBx hb1
    go_wp2_with fail
    refine (read_w' bs lo _ 256 cap l w1 hn hb (hB1.sub (by decide))).mono ?_
    rintro e w2 ⟨hR, hb2⟩
    have B2 := B1.trans (hb2.mono (by omega))
    have k2 := (hb2.block w.heap.size s1).trans k1
    have s2 := hb2.size
    cases hp : parse l with
    | none =>
      have HP := hid hp
      rw [hp] at hR
      simp only at hR
      subst hR
      have bz := B2.alloc (by omega) (.cells #[.int .i64 0, .slice none 0 0] 98)
      have HO := hid (out_onone bz)
      obtain ⟨x0, x1, y0, y1⟩ := blk_c (al_old k2 (.cells #[.int .i64 0, .slice none 0 0] 98))
      clear hp hn hg hb hb2 B1 B2 k1 k2 hB1 bz
      go_wp2
      refine bodyPost_ret (v := .tuple #[Rv 0 none 0 0, .bool false, .nilIface]) (by simp [results, Tryd.results109, go_sem, x0, x1]) rfl (by rw [HP.out]; exact HO.out _ _)
    | some r =>
      have HP := hid hp
      rw [hp] at hR
      obtain ⟨a, c, rfl, hR, hfr⟩ := hR
      have bz := B2.alloc (by omega) (.cells #[.int .i64 r.ep, .slice a r.rs.length c] 98)
      have HO := hid (out_one (hR.below ((Below.refl _ _).alloc (Nat.le_refl _) (.cells #[.int .i64 r.ep, .slice a r.rs.length c] 98))) bz (fun b o e => by have := hfr b o e; omega))
      obtain ⟨x0, x1, y0, y1⟩ := blk_c (al_old k2 (.cells #[.int .i64 r.ep, .slice a r.rs.length c] 98))
      clear hp hn hg hb hb2 B1 B2 k1 k2 hB1 bz hR hfr
      go_wp2
      refine bodyPost_ret (v := .tuple #[Rv r.ep a r.rs.length c, .bool true, .nilIface]) (by simp [results, Tryd.results109, go_sem, x0, x1]) rfl (by rw [HP.out]; exact HO.out _ _)
  | none =>
    rw [hD] at hr
    show Calls _ _ _ w (OneTo w none)
    go_enter Tryd.func109, Tryd.ntmps109
    go_wp2_with fail
    refine hr.mono ?_
    rintro e w1 ⟨⟨aI', haI', rfl⟩, hb1⟩
    rw [haI] at haI'
    cases haI'
    have hA1 := (hAI.below hb1).1
    have k1 := (hb1.block w.heap.size (by rw [HZ.out]; omega)).trans hk0
    have HO := hid (out_onone (HX.out.trans (hb1.mono (by rw [HZ.out]; omega))))
    obtain ⟨x0, x1, y0, y1⟩ := blk_c k1
    obtain ⟨i1, hi1, hi2⟩ : ∃ i, Tryd.prog.info? Err.tp = some i ∧ i.comparable = true := ⟨_, rfl, by kernel_rfl⟩
    obtain ⟨j, hj⟩ : ∃ j, Tryd.prog.info? 212 = some j := ⟨_, rfl⟩
    have he := fun w => run_eql_iface_ptr_same (P := Tryd.prog) (w := w) aI Tryd.underlying26 Tryd.underlying196 hi1 hi2 hj
    clear hr hAI hk0 hBx hb1 k1
    go_wp2
    refine bodyPost_ret (v := .tuple #[Rv 0 none 0 0, .bool false, .nilIface]) (by simp [results, Tryd.results109, go_sem, x0, x1]) rfl (HO.out _ _)
end Go.Proofs.YtlljpljfmaaejaaDoor.RootW
