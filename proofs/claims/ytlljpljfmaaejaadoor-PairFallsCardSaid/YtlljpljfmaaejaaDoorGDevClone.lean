/- The walk of dev's Clone. -/
import Derived.Test.YtlljpljfmaaejaaDoorShelf
import Derived.Test.YtlljpljfmaaejaaDoorGDevNew
import Derived.Shelf.SlMaps.Clone
namespace Go.Proofs.YtlljpljfmaaejaaDoor.DevG
open Go Go.RowKit Go.Maps Go.Proofs.YtlljpljfmaaejaaDoor.Mem Go.Proofs.YtlljpljfmaaejaaDoor.MapsW Go.Proofs.YtlljpljfmaaejaaDoor.SeeW
set_option linter.unusedVariables false
set_option maxRecDepth 100000

theorem rows_copied {w w' : World} {base b c n np : Nat} {F : Int → Option (List Nat)} (h : RowMap w base b n F np) (hb : Below w.heap.size w w') {o : Obj} (h1 : w.heap[b]? = some o) (h2 : w'.heap[c]? = some o) : RowMap w' base c n F np := by
  obtain ⟨D, ⟨es, ck, k1, k2⟩, k3, k4⟩ := h
  obtain rfl := Option.some.inj (h1.symm.trans k1)
  refine ⟨D, ⟨es, ck, h2, k2⟩, k3, fun i => ?_⟩
  have := k4 i
  cases hF : F i with
  | none => rw [hF] at this; exact this
  | some l =>
    rw [hF] at this
    obtain ⟨a, g, cap, b1, b2, b3⟩ := this
    exact ⟨a, g, cap, b1, b2.below hb, b3⟩
theorem bools_copied {w w' : World} {b c n : Nat} {F : Int → Bool} (h : BoolMap w b n F) {o : Obj} (h1 : w.heap[b]? = some o) (h2 : w'.heap[c]? = some o) : BoolMap w' c n F := by
  obtain ⟨D, ⟨es, ck, k1, k2⟩, k3⟩ := h
  obtain rfl := Option.some.inj (h1.symm.trans k1)
  exact ⟨D, ⟨es, ck, h2, k2⟩, k3⟩
theorem sets_copied {w w' : World} {b c n k : Nat} {F : Int → Bool} (h : SetMap w b n F k) {o : Obj} (h1 : w.heap[b]? = some o) (h2 : w'.heap[c]? = some o) : SetMap w' c n F k := by
  obtain ⟨D, ⟨es, ck, k1, k2⟩, k3, k4⟩ := h
  obtain rfl := Option.some.inj (h1.symm.trans k1)
  exact ⟨D, ⟨es, ck, h2, k2⟩, k3, k4⟩
/-- a map copied: the new one's block -/
def Copied (b : Nat) (o : Obj) (w : World) (e : Ending) (w' : World) : Prop := e = .returned (.map (some w.heap.size)) ∧ w'.heap[w.heap.size]? = some o ∧ Below w.heap.size w w' ∧ w'.heap.size = w.heap.size + 1
theorem copied {b : Nat} {es : Array MapEntry} {ck : Nat} {w : World} {e : Ending} {w' : World} (h : e = .returned (.map (some w.heap.size)) ∧ w' = w.alloc (.map es ck)) : Copied b (.map es ck) w e w' := by
  obtain ⟨h1, rfl⟩ := h
  exact ⟨h1, heap_alloc_new _ _, (Below.refl _ _).alloc (Nat.le_refl _) _, by simp⟩
theorem cloneRows_w (b : Nat) (es : Array MapEntry) (ck : Nat) (w : World) (hb : w.heap[b]? = some (.map es ck)) :
    Calls Tryd.prog 86 #[.map (some b)] w (Copied b (.map es ck) w) :=
  (AnyW.maps_Clone Tryd.cloneA b es ck w hb).mono fun e w' h => copied h
theorem cloneBools_w (b : Nat) (es : Array MapEntry) (ck : Nat) (w : World) (hb : w.heap[b]? = some (.map es ck)) :
    Calls Tryd.prog 87 #[.map (some b)] w (Copied b (.map es ck) w) :=
  (AnyW.maps_Clone Tryd.cloneB b es ck w hb).mono fun e w' h => copied h
theorem cells9 {w : World} {d : Nat} {v0 v1 v2 v3 v4 v5 v6 v7 v8 : Value} {t : TypeId} (h : w.heap[d]? = some (.cells #[v0, v1, v2, v3, v4, v5, v6, v7, v8] t)) :
    w.cell? ⟨d, 1, none⟩ = some v1 ∧ w.cell? ⟨d, 2, none⟩ = some v2 ∧ w.cell? ⟨d, 3, none⟩ = some v3 ∧ w.cell? ⟨d, 4, none⟩ = some v4 ∧ w.cell? ⟨d, 5, none⟩ = some v5 ∧ w.frozen? ⟨d, 1, none⟩ = false ∧ w.frozen? ⟨d, 2, none⟩ = false ∧ w.frozen? ⟨d, 3, none⟩ = false ∧ w.frozen? ⟨d, 4, none⟩ = false ∧ w.frozen? ⟨d, 5, none⟩ = false := by
  simp [World.cell?, World.frozen?, h]
theorem cell_far {w : World} {d x j k : Nat} {u v : Value} (h : d ≠ x) (hc : w.cell? ⟨d, k, none⟩ = some u) : (w.setCell ⟨x, j, none⟩ v).cell? ⟨d, k, none⟩ = some u :=
  (World.cell?_of_block (w := w) (heap_setCell_other w ⟨x, j, none⟩ d v h)).trans hc
set_option maxHeartbeats 3200000 in
theorem clone_w (d lo n : Nat) (m : Mp) (D : Dv) (w : World) (h : At w lo d n m D) :
    Calls Tryd.prog 32 #[ptr d] w fun e w' => ∃ d' m', e = .returned (ptr d') ∧ At w' w.heap.size d' n m' D ∧ Below w.heap.size w w' := by
  obtain ⟨k, hk⟩ := h.rf
  obtain ⟨es1, ck1, o1⟩ := hk.block
  obtain ⟨es2, ck2, o2⟩ := h.rp.block
  obtain ⟨es3, ck3, o3⟩ := h.ba.block
  obtain ⟨es4, ck4, o4⟩ := h.bi.block
  obtain ⟨es5, ck5, o5⟩ := h.be.block
  obtain ⟨c0, c1, c2, c3, c4, c5, c6, c7, c8, f6, f2, f7, f8⟩ := h.c
  have hdc := h.cells
  have H := hid h
  clear h hk
  go_enter Tryd.func32, Tryd.ntmps32
  go_wp2_with fail
  have B1 := (Below.refl w.heap.size w).alloc (Nat.le_refl _) (.cells (cellsOf m D) 111)
  have x1 := heap_alloc_new w (.cells (cellsOf m D) 111)
  have z1 : (w.alloc (.cells (cellsOf m D) 111)).heap.size = w.heap.size + 1 := by simp
  have HB := hid B1
  have keepd : ∀ {a b : World}, Below a.heap.size a b → ∀ {q : Nat} {o : Obj}, a.heap[q]? = some o → b.heap[q]? = some o := fun hb _ _ hq => (hb.block _ (Array.getElem?_eq_some_iff.1 hq).1).trans hq
  have hdc1 := B1.block d (Array.getElem?_eq_some_iff.1 hdc).1 |>.trans hdc
  have o11 := B1.block m.f (Array.getElem?_eq_some_iff.1 o1).1 |>.trans o1
  have o21 := B1.block m.p (Array.getElem?_eq_some_iff.1 o2).1 |>.trans o2
  clear c0 c1 c2 c3 c4 c5 c6 c7 c8 f6 f2 f7 f8 B1
  change Code.wp _ _ _ _ (w.alloc (.cells (cellsOf m D) 111))
  generalize w.alloc (.cells (cellsOf m D) 111) = W1 at *
  obtain ⟨c1, c2, c3, c4, c5, _⟩ := cells9 hdc1
  have hne : d ≠ w.heap.size := Nat.ne_of_lt (Array.getElem?_eq_some_iff.1 hdc).1
  have hf := fun w hb => cloneRows_w m.f es1 ck1 w hb
  have hp := fun w hb => cloneRows_w m.p es2 ck2 w hb
  go_region_held3 (fun w' => w'.cell? ⟨d, 1, none⟩ = some (.map (some m.f)) ∧ w'.cell? ⟨d, 2, none⟩ = some (.map (some m.p))) (first | exact ⟨c1, c2⟩ | exact ⟨k1, k2⟩ | exact ⟨l1, l2⟩ | exact ⟨cell_far hne l1, cell_far hne l2⟩ | exact ⟨cell_far hne (cell_far hne l1), cell_far hne (cell_far hne l2)⟩ | go_keep)
    (first
      | (go_at_call 86; refine (hf _ (keepd (below_drewN (Below.refl _ _) 1) o11)).mono ?_; rintro e w3 ⟨rfl, n1, b3, s3⟩; have k1 := kept b3 c1; have k2 := kept b3 c2)
      | (go_at_call 86; refine (hp _ (keepd b3 (keepd (below_drewN (Below.refl _ _) 1) o21))).mono ?_; rintro e w4 ⟨rfl, n2, b4, s4⟩; have l1 := kept b4 k1; have l2 := kept b4 k2; have x4 := keepd b4 (keepd b3 (keepd (below_drewN (Below.refl _ _) 1) x1)); obtain ⟨r1, r2, r3, r4, r5, r6, r7, r8, r9, r10⟩ := cells9 x4))
  have e1 : (W1.drewN 1).heap.size = w.heap.size + 1 := z1
  have e3 : w3.heap.size = w.heap.size + 2 := by rw [s3, e1]
  have e4 : w4.heap.size = w.heap.size + 3 := by rw [s4, e3]
  rw [e1] at n1
  rw [e3] at n2
  have B4 : Below w.heap.size w w4 := ((below_drewN HB.out 1).trans (b3.mono (by omega))).trans (b4.mono (by omega))
  have x5 : ((w4.setCell ⟨w.heap.size, 1, none⟩ (.map (some (w.heap.size + 1)))).setCell ⟨w.heap.size, 2, none⟩ (.map (some (w.heap.size + 1 + 1)))).heap[w.heap.size]? = some (.cells (cellsOf ⟨w.heap.size + 1, w.heap.size + 2, m.a, m.i, m.e⟩ D) 111) := by
    simp [World.setCell, Array.getElem?_modify, x4]
  have y5 := (heap_setCell_other (w4.setCell ⟨w.heap.size, 1, none⟩ (.map (some (w.heap.size + 1)))) ⟨w.heap.size, 2, none⟩ (w.heap.size + 1) (.map (some (w.heap.size + 1 + 1))) (by simp)).trans ((heap_setCell_other w4 ⟨w.heap.size, 1, none⟩ (w.heap.size + 1) (.map (some (w.heap.size + 1))) (by simp)).trans (keepd b4 n1))
  have z5 := (heap_setCell_other (w4.setCell ⟨w.heap.size, 1, none⟩ (.map (some (w.heap.size + 1)))) ⟨w.heap.size, 2, none⟩ (w.heap.size + 2) (.map (some (w.heap.size + 1 + 1))) (by simp)).trans ((heap_setCell_other w4 ⟨w.heap.size, 1, none⟩ (w.heap.size + 2) (.map (some (w.heap.size + 1))) (by simp)).trans n2)
  have B5 := (B4.setCell (p := ⟨w.heap.size, 1, none⟩) (Nat.le_refl _) (.map (some (w.heap.size + 1)))).setCell (p := ⟨w.heap.size, 2, none⟩) (Nat.le_refl _) (.map (some (w.heap.size + 1 + 1)))
  have q5 : ((w4.setCell ⟨w.heap.size, 1, none⟩ (.map (some (w.heap.size + 1)))).setCell ⟨w.heap.size, 2, none⟩ (.map (some (w.heap.size + 1 + 1)))).heap.size = w.heap.size + 3 := by simp [e4]
  clear n1 n2 b3 b4 s3 s4 k1 k2 l1 l2 x4 r1 r2 r3 r4 r5 r6 r7 r8 r9 r10 hf hp c1 c2 c3 c4 c5 o11 o21 hdc1 x1 z1 e1 e3 e4 B4 HB
  generalize (w4.setCell ⟨w.heap.size, 1, none⟩ (.map (some (w.heap.size + 1)))).setCell ⟨w.heap.size, 2, none⟩ (.map (some (w.heap.size + 1 + 1))) = W5 at *
  have HB := hid B5
  have hd5 := B5.block d (Array.getElem?_eq_some_iff.1 hdc).1 |>.trans hdc
  have o35 := B5.block m.a (Array.getElem?_eq_some_iff.1 o3).1 |>.trans o3
  have o45 := B5.block m.i (Array.getElem?_eq_some_iff.1 o4).1 |>.trans o4
  have o55 := B5.block m.e (Array.getElem?_eq_some_iff.1 o5).1 |>.trans o5
  clear B5
  obtain ⟨c1, c2, c3, c4, c5, _⟩ := cells9 hd5
  have ha := fun w hb => cloneBools_w m.a es3 ck3 w hb
  have hi := fun w hb => cloneBools_w m.i es4 ck4 w hb
  have he := fun w hb => cloneBools_w m.e es5 ck5 w hb
  go_wp2_with fail
  go_region_held3 (fun w' => w'.cell? ⟨d, 3, none⟩ = some (.map (some m.a)) ∧ w'.cell? ⟨d, 4, none⟩ = some (.map (some m.i)) ∧ w'.cell? ⟨d, 5, none⟩ = some (.map (some m.e))) (first | exact ⟨c3, c4, c5⟩ | exact ⟨k1, k2, k3⟩ | exact ⟨l1, l2, l3⟩ | exact ⟨j1, j2, j3⟩ | exact ⟨cell_far hne j1, cell_far hne j2, cell_far hne j3⟩ | exact ⟨cell_far hne (cell_far hne j1), cell_far hne (cell_far hne j2), cell_far hne (cell_far hne j3)⟩ | exact ⟨cell_far hne (cell_far hne (cell_far hne j1)), cell_far hne (cell_far hne (cell_far hne j2)), cell_far hne (cell_far hne (cell_far hne j3))⟩ | go_keep)
    (first
      | (go_at_call 87; refine (ha _ (keepd (below_drewN (Below.refl _ _) 1) o35)).mono ?_; rintro e w6 ⟨rfl, n1, b6, s6⟩; have k1 := kept b6 c3; have k2 := kept b6 c4; have k3 := kept b6 c5)
      | (go_at_call 87; refine (hi _ (keepd b6 (keepd (below_drewN (Below.refl _ _) 1) o45))).mono ?_; rintro e w7 ⟨rfl, n2, b7, s7⟩; have l1 := kept b7 k1; have l2 := kept b7 k2; have l3 := kept b7 k3)
      | (go_at_call 87; refine (he _ (keepd b7 (keepd b6 (keepd (below_drewN (Below.refl _ _) 1) o55)))).mono ?_; rintro e w8 ⟨rfl, n3, b8, s8⟩; have j1 := kept b8 l1; have j2 := kept b8 l2; have j3 := kept b8 l3; have x8 := keepd b8 (keepd b7 (keepd b6 (keepd (below_drewN (Below.refl _ _) 1) x5))); obtain ⟨r1, r2, r3, r4, r5, r6, r7, r8, r9, r10⟩ := cells9 x8))
  have e5 : (W5.drewN 1).heap.size = w.heap.size + 3 := q5
  have e6 : w6.heap.size = w.heap.size + 4 := by rw [s6, e5]
  have e7 : w7.heap.size = w.heap.size + 5 := by rw [s7, e6]
  have e8 : w8.heap.size = w.heap.size + 6 := by rw [s8, e7]
  rw [e5] at n1
  rw [e6] at n2
  rw [e7] at n3
  have B8 : Below w.heap.size w w8 := (((below_drewN HB.out 1).trans (b6.mono (by omega))).trans (b7.mono (by omega))).trans (b8.mono (by omega))
  have fin : ∀ (u1 u2 u3 : Value), Turn [w.heap.size] w8 (((w8.setCell ⟨w.heap.size, 3, none⟩ u1).setCell ⟨w.heap.size, 4, none⟩ u2).setCell ⟨w.heap.size, 5, none⟩ u3) := fun u1 u2 u3 => ((Turn.setCell w8 w.heap.size 3 u1 (by simp)).then (Turn.setCell _ _ _ _ (by simp))).then (Turn.setCell _ _ _ _ (by simp))
  have y8 := keepd b8 (keepd b7 (keepd b6 (keepd (below_drewN (Below.refl _ _) 1) y5)))
  have z8 := keepd b8 (keepd b7 (keepd b6 (keepd (below_drewN (Below.refl _ _) 1) z5)))
  have v1 := keepd b8 (keepd b7 n1)
  have v2 := keepd b8 n2
  have x9 : (((w8.setCell ⟨w.heap.size, 3, none⟩ (.map (some (w.heap.size + 3)))).setCell ⟨w.heap.size, 4, none⟩ (.map (some (w.heap.size + 4)))).setCell ⟨w.heap.size, 5, none⟩ (.map (some (w.heap.size + 5)))).heap[w.heap.size]? = some (.cells (cellsOf ⟨w.heap.size + 1, w.heap.size + 2, w.heap.size + 3, w.heap.size + 4, w.heap.size + 5⟩ D) 111) := by
    simp [World.setCell, Array.getElem?_modify, x8]
  have F := fin (.map (some (w.heap.size + 3))) (.map (some (w.heap.size + 4))) (.map (some (w.heap.size + 5)))
  have B9 := B8.trans (F.below B8.size (fun x hx => by rw [List.mem_singleton.1 hx]; exact Nat.le_refl _))
  have cp : ∀ {k : Nat} {o : Obj}, k ≠ w.heap.size → w8.heap[k]? = some o → (((w8.setCell ⟨w.heap.size, 3, none⟩ (.map (some (w.heap.size + 3)))).setCell ⟨w.heap.size, 4, none⟩ (.map (some (w.heap.size + 4)))).setCell ⟨w.heap.size, 5, none⟩ (.map (some (w.heap.size + 5)))).heap[k]? = some o := fun hk ho => (F.block _ (Array.getElem?_eq_some_iff.1 ho).1 (by simpa using hk)).trans ho
  have HF := hid (show At (((w8.setCell ⟨w.heap.size, 3, none⟩ (.map (some (w.heap.size + 3)))).setCell ⟨w.heap.size, 4, none⟩ (.map (some (w.heap.size + 4)))).setCell ⟨w.heap.size, 5, none⟩ (.map (some (w.heap.size + 5)))) w.heap.size w.heap.size n ⟨w.heap.size + 1, w.heap.size + 2, w.heap.size + 3, w.heap.size + 4, w.heap.size + 5⟩ D by
    obtain ⟨kk, hkk⟩ := H.out.rf
    exact ⟨x9, ⟨kk, rows_copied hkk B9 o1 (cp (k := w.heap.size + 1) (by omega) y8)⟩, rows_copied H.out.rp B9 o2 (cp (k := w.heap.size + 2) (by omega) z8), bools_copied H.out.ba o3 (cp (k := w.heap.size + 3) (by omega) v1), bools_copied H.out.bi o4 (cp (k := w.heap.size + 4) (by omega) v2), sets_copied H.out.be o5 (cp (k := w.heap.size + 5) (by omega) n3), by simp [Mp.list], Nat.le_refl _, fun x hx => by simp [Mp.list] at hx; omega⟩)
  have HB9 := hid B9
  clear n1 n2 n3 b6 b7 b8 s6 s7 s8 k1 k2 k3 l1 l2 l3 j1 j2 j3 x8 r1 r2 r3 r4 r5 r6 r7 r8 r9 r10 ha hi he c1 c2 c3 c4 c5 y8 z8 v1 v2 x9 F B9 cp fin B8 x5 y5 z5 e5 e6 e7 e8
  go_wp2_with fail
  go_ret
  exact ⟨_, _, rfl, HF.out, HB9.out⟩
end Go.Proofs.YtlljpljfmaaejaaDoor.DevG
