/- What was written last at each place: the law's own arrays. -/
import Derived.Test.YtagbnacffiagcaaDoorGPairCp
import Derived.Test.YtagbnacffiagcaaDoorGPairGood
import Derived.Test.YtagbnacffiagcaaDoorGPairFirst
import Derived.Test.YtagbnacffiagcaaDoorDoRow
import Derived.Test.YtagbnacffiagcaaDoorNumWalk
namespace Go.Proofs.YtagbnacffiagcaaDoor.PairG
open Go Go.RowKit Go.Maps Go.Proofs.YtagbnacffiagcaaDoor.Mem Go.Proofs.YtagbnacffiagcaaDoor.MapsW Go.Proofs.YtagbnacffiagcaaDoor.SeeW Go.Proofs.YtagbnacffiagcaaDoor.DevG Go.Proofs.YtagbnacffiagcaaDoor.BlobW
set_option linter.unusedVariables false
set_option maxRecDepth 100000

theorem ev_of_bs {w : World} {bs : List Addr} (h : SeeW.Bs w bs) (I : List Nat) (hI : ∀ i ∈ I, i < 24) : Ev w w.heap.size bs I := by
  obtain ⟨h1, h2, h3⟩ := h
  refine ⟨fun i hi g hg => ?_, fun i hi j hj e => (List.getElem?_inj (by rw [h1]; exact hI i hi) h2).1 e⟩
  obtain ⟨a, ha, hA⟩ := h3 i g hg
  exact ⟨a, ha, hA, World.block_lt_of_cell? w ⟨g, 0, none⟩ hA.1, hA.lt⟩
/-- what writes elsewhere leaves them -/
theorem Ses.away {w0 w w' : World} {n : Nat} {m : Mp} {D : Dv} {p h c : Nat} (s : Ses w0 w n m D p h c) {S : List Nat} (t : Turn S w w') (hS : ∀ x ∈ S, x ≠ p ∧ x ≠ w0.heap.size + 5 ∧ w0.heap.size ≤ x ∧ ∃ v cs t f, w.heap[x]? = some (.cells cs t f) ∧ w.cell? ⟨x, 0, none⟩ = some v ∧ ∀ z, v ≠ .int .u8 z) : Ses w0 w' n m D p h c :=
  ⟨s.k.elsewhere t fun x hx => let ⟨a, b, _, d⟩ := hS x hx; ⟨a, b, d⟩, s.b.trans (t.below s.b.size fun x hx => (hS x hx).2.2.1), s.ok⟩

/-- blocks a, r: the bytes written last at each of the 75 places (nil: none), the place and the sum -/
structure Hv (w : World) (a r : Nat) (F : Nat → Option (List Nat)) : Prop where
  b1 : ∃ cs, w.heap[a]? = some (.cells cs 29)
  b2 : ∃ cs, w.heap[r]? = some (.cells cs 33)
  ne : a ≠ r
  u1 : ∀ off z, w.cell? ⟨a, off, none⟩ ≠ some (.int .u8 z)
  u2 : ∀ off z, w.cell? ⟨r, off, none⟩ ≠ some (.int .u8 z)
  in1 : ∀ j, j < 75 → ∃ x, w.cell? ⟨a, j, none⟩ = some x
  in2 : ∀ j, j < 75 → ∃ x y, w.cell? ⟨r, j * 2, none⟩ = some x ∧ w.cell? ⟨r, j * 2 + 1, none⟩ = some y
  no : ∀ j, j < 75 → F j = none → w.cell? ⟨a, j, none⟩ = some (.slice none 0 0)
  has : ∀ j P, j < 75 → F j = some P → ∃ g cap, w.cell? ⟨a, j, none⟩ = some (.slice (some ⟨g, 0, none⟩) 256 cap) ∧ Nums .u8 w (some ⟨g, 0, none⟩) 256 cap P ∧ w.cell? ⟨r, j * 2, none⟩ = some (.int .i64 (j : Int)) ∧ w.cell? ⟨r, j * 2 + 1, none⟩ = some (.int .u32 (Crc.sum P : Nat))
section
variable {w w' : World} {a r : Nat} {F : Nat → Option (List Nat)}
theorem Hv.alt (h : Hv w a r F) : a < w.heap.size := let ⟨_, e⟩ := h.b1; (Array.getElem?_eq_some_iff.1 e).1
theorem Hv.rlt (h : Hv w a r F) : r < w.heap.size := let ⟨_, e⟩ := h.b2; (Array.getElem?_eq_some_iff.1 e).1
theorem Hv.frozen (h : Hv w a r F) (j : Nat) (hj : j < 75) : w.frozen? ⟨a, j, none⟩ = false ∧ w.frozen? ⟨r, j * 2, none⟩ = false ∧ w.frozen? ⟨r, j * 2 + 1, none⟩ = false := by
  obtain ⟨c1, h1⟩ := h.b1
  obtain ⟨c2, h2⟩ := h.b2
  simp [World.frozen?, h1, h2]
theorem Hv.keep (h : Hv w a r F) (e1 : w'.heap[a]? = w.heap[a]?) (e2 : w'.heap[r]? = w.heap[r]?) (hn : ∀ g cap P, Nums .u8 w (some ⟨g, 0, none⟩) 256 cap P → Nums .u8 w' (some ⟨g, 0, none⟩) 256 cap P) : Hv w' a r F := by
  have c1 : ∀ off, w'.cell? ⟨a, off, none⟩ = w.cell? ⟨a, off, none⟩ := fun off => World.cell?_of_block (w := w) e1
  have c2 : ∀ off, w'.cell? ⟨r, off, none⟩ = w.cell? ⟨r, off, none⟩ := fun off => World.cell?_of_block (w := w) e2
  refine ⟨by rw [e1]; exact h.b1, by rw [e2]; exact h.b2, h.ne, fun off z => by rw [c1]; exact h.u1 off z, fun off z => by rw [c2]; exact h.u2 off z, fun j hj => by rw [c1]; exact h.in1 j hj, fun j hj => by rw [c2, c2]; exact h.in2 j hj, fun j hj hF => by rw [c1]; exact h.no j hj hF, fun j P hj hF => ?_⟩
  obtain ⟨g, cap, x1, x2, x3, x4⟩ := h.has j P hj hF
  exact ⟨g, cap, by rw [c1]; exact x1, hn _ _ _ x2, by rw [c2]; exact x3, by rw [c2]; exact x4⟩
theorem Hv.below (h : Hv w a r F) (hb : Below w.heap.size w w') : Hv w' a r F :=
  h.keep (hb.block a h.alt) (hb.block r h.rlt) fun g cap P hn => hn.below hb
/-- what the pairs do leaves them -/
theorem Hv.turn {w0 : World} {n : Nat} {m : Mp} {D : Dv} {p c : Nat} {k : Nat} (h : Hv w a r F) (s : Ses w0 w n m D p k c) (t : Turn (all w0 m p) w w') (n1 : a ≠ p) (n2 : a ≠ w0.heap.size + 5) (n3 : r ≠ p) (n4 : r ≠ w0.heap.size + 5) : Hv w' a r F := by
  obtain ⟨c1, h1⟩ := h.b1
  obtain ⟨c2, h2⟩ := h.b2
  exact h.keep ((s.cells t h1 n1 n2).trans h1.symm) ((s.cells t h2 n3 n4).trans h2.symm) fun g cap P hn => s.nums t hn
/-- one more is written -/
theorem Hv.put (h : Hv w a r F) (i : Nat) (hi : i < 75) {g cap : Nat} {P : List Nat} (hn : Nums .u8 w (some ⟨g, 0, none⟩) 256 cap P) :
    Hv (((w.setCell ⟨a, i, none⟩ (.slice (some ⟨g, 0, none⟩) 256 cap)).setCell ⟨r, i * 2, none⟩ (.int .i64 (i : Int))).setCell ⟨r, i * 2 + 1, none⟩ (.int .u32 (Crc.sum P : Nat))) a r (fun j => if j = i then some P else F j)
    ∧ Turn [a, r] w (((w.setCell ⟨a, i, none⟩ (.slice (some ⟨g, 0, none⟩) 256 cap)).setCell ⟨r, i * 2, none⟩ (.int .i64 (i : Int))).setCell ⟨r, i * 2 + 1, none⟩ (.int .u32 (Crc.sum P : Nat))) := by
  have ht : Turn [a, r] w (((w.setCell ⟨a, i, none⟩ (.slice (some ⟨g, 0, none⟩) 256 cap)).setCell ⟨r, i * 2, none⟩ (.int .i64 (i : Int))).setCell ⟨r, i * 2 + 1, none⟩ (.int .u32 (Crc.sum P : Nat))) :=
    ((Turn.setCell w a i _ (by simp)).then (Turn.setCell _ r (i * 2) _ (by simp))).then (Turn.setCell _ r (i * 2 + 1) _ (by simp))
  have hNt : ∀ g' cap' P', Nums .u8 w (some ⟨g', 0, none⟩) 256 cap' P' → Nums .u8 (((w.setCell ⟨a, i, none⟩ (.slice (some ⟨g, 0, none⟩) 256 cap)).setCell ⟨r, i * 2, none⟩ (.int .i64 (i : Int))).setCell ⟨r, i * 2 + 1, none⟩ (.int .u32 (Crc.sum P : Nat))) (some ⟨g', 0, none⟩) 256 cap' P' := fun g' cap' P' h' =>
    nums_turn h' ht fun x hx off z => by
      simp only [List.mem_cons, List.not_mem_nil, or_false] at hx
      rcases hx with rfl | rfl
      · exact h.u1 off z
      · exact h.u2 off z
  refine ⟨?_, ht⟩
  obtain ⟨c1, h1⟩ := h.b1
  obtain ⟨c2, h2⟩ := h.b2
  have ne := h.ne
  obtain ⟨x, hx⟩ := h.in1 i hi
  obtain ⟨y, z, hy, hz⟩ := h.in2 i hi
  generalize hv : (Value.slice (some ⟨g, 0, none⟩) 256 cap) = v at *
  have a1 : ∀ off, (((w.setCell ⟨a, i, none⟩ v).setCell ⟨r, i * 2, none⟩ (.int .i64 (i : Int))).setCell ⟨r, i * 2 + 1, none⟩ (.int .u32 (Crc.sum P : Nat))).cell? ⟨a, off, none⟩ = if off = i then some v else w.cell? ⟨a, off, none⟩ := by
    intro off
    rw [World.cell?_setCell_other _ (a := ⟨r, i * 2 + 1, none⟩) (b := ⟨a, off, none⟩) (v := _) (fun e => ne (congrArg Addr.block e).symm), World.cell?_setCell_other _ (a := ⟨r, i * 2, none⟩) (b := ⟨a, off, none⟩) (v := _) (fun e => ne (congrArg Addr.block e).symm)]
    by_cases e : off = i
    · subst e
      rw [if_pos rfl]
      exact World.cell?_setCell_same w _ v hx
    · rw [if_neg e, World.cell?_setCell_other _ (a := ⟨a, i, none⟩) (b := ⟨a, off, none⟩) (v := _) (fun h => e (congrArg Addr.off h).symm)]
  have a2 : ∀ off, (((w.setCell ⟨a, i, none⟩ v).setCell ⟨r, i * 2, none⟩ (.int .i64 (i : Int))).setCell ⟨r, i * 2 + 1, none⟩ (.int .u32 (Crc.sum P : Nat))).cell? ⟨r, off, none⟩ = if off = i * 2 + 1 then some (.int .u32 (Crc.sum P : Nat)) else if off = i * 2 then some (.int .i64 (i : Int)) else w.cell? ⟨r, off, none⟩ := by
    intro off
    have o0 : ∀ off, (w.setCell ⟨a, i, none⟩ v).cell? ⟨r, off, none⟩ = w.cell? ⟨r, off, none⟩ := fun off => World.cell?_setCell_other _ (a := ⟨a, i, none⟩) (b := ⟨r, off, none⟩) (v := _) (fun e => ne (congrArg Addr.block e))
    by_cases e : off = i * 2 + 1
    · subst e
      rw [if_pos rfl]
      refine World.cell?_setCell_same (u := z) _ _ _ ?_
      rw [World.cell?_setCell_other _ (a := ⟨r, i * 2, none⟩) (b := ⟨r, i * 2 + 1, none⟩) (v := _) (fun h => by have := congrArg Addr.off h; simp at this), o0]
      exact hz
    · rw [if_neg e, World.cell?_setCell_other _ (a := ⟨r, i * 2 + 1, none⟩) (b := ⟨r, off, none⟩) (v := _) (fun h => e (congrArg Addr.off h).symm)]
      by_cases e2 : off = i * 2
      · subst e2
        rw [if_pos rfl]
        exact World.cell?_setCell_same (u := y) _ _ _ (by rw [o0]; exact hy)
      · rw [if_neg e2, World.cell?_setCell_other _ (a := ⟨r, i * 2, none⟩) (b := ⟨r, off, none⟩) (v := _) (fun h => e2 (congrArg Addr.off h).symm), o0]
  have k1 := heap_setCell_same w a i c1 _ v h1
  have k2 := heap_setCell_same _ r (i * 2 + 1) _ _ (.int .u32 (Crc.sum P : Nat)) (heap_setCell_same _ r (i * 2) _ _ (.int .i64 (i : Int)) ((heap_setCell_other w ⟨a, i, none⟩ r v (fun e => ne e.symm)).trans h2))
  refine ⟨⟨_, (heap_setCell_other _ ⟨r, i * 2 + 1, none⟩ a _ ne).trans ((heap_setCell_other _ ⟨r, i * 2, none⟩ a _ ne).trans k1)⟩, ⟨_, k2⟩, ne, fun off q => ?_, fun off q => ?_, fun j hj => ?_, fun j hj => ?_, fun j hj hF => ?_, fun j Q hj hF => ?_⟩
  · rw [a1]; split
    · rw [← hv]; intro e; cases e
    · exact h.u1 off q
  · rw [a2]; split
    · intro e; cases e
    · split
      · intro e; cases e
      · exact h.u2 off q
  · rw [a1]; split
    · exact ⟨_, rfl⟩
    · exact h.in1 j hj
  · obtain ⟨p, q, h3, h4⟩ := h.in2 j hj
    rw [a2, a2]
    by_cases e : j = i
    · subst e
      exact ⟨_, _, by rw [if_neg (by omega), if_pos rfl], by rw [if_pos rfl]⟩
    · exact ⟨p, q, by rw [if_neg (by omega), if_neg (by omega)]; exact h3, by rw [if_neg (by omega), if_neg (by omega)]; exact h4⟩
  · by_cases e : j = i
    · rw [if_pos e] at hF; cases hF
    · rw [if_neg e] at hF
      rw [a1, if_neg e]
      exact h.no j hj hF
  · by_cases e : j = i
    · subst e
      rw [if_pos rfl] at hF
      cases hF
      exact ⟨g, cap, by rw [a1, if_pos rfl, hv], hNt _ _ _ hn, by rw [a2, if_neg (by omega), if_pos rfl], by rw [a2, if_pos rfl]⟩
    · rw [if_neg e] at hF
      obtain ⟨g', cap', x1, x2, x3, x4⟩ := h.has j Q hj hF
      exact ⟨g', cap', by rw [a1, if_neg e]; exact x1, hNt _ _ _ x2, by rw [a2, if_neg (by omega), if_neg (by omega)]; exact x3, by rw [a2, if_neg (by omega), if_neg (by omega)]; exact x4⟩
end
/-- what is stored there leaves the pairs -/
theorem Hv.ses {w w' : World} {a r : Nat} {F : Nat → Option (List Nat)} {w0 : World} {n : Nat} {m : Mp} {D : Dv} {p k c : Nat} (h : Hv w a r F) (s : Ses w0 w n m D p k c) (t : Turn [a, r] w w') (h1 : p < a) (h2 : p < r) (h3 : w0.heap.size + 5 < a) (h4 : w0.heap.size + 5 < r) : Ses w0 w' n m D p k c := by
  obtain ⟨c1, e1⟩ := h.b1
  obtain ⟨c2, e2⟩ := h.b2
  obtain ⟨x, hx⟩ := h.in1 0 (by decide)
  obtain ⟨y, z, hy, _⟩ := h.in2 0 (by decide)
  refine s.away t fun u hu => ?_
  simp only [List.mem_cons, List.not_mem_nil, or_false] at hu
  rcases hu with rfl | rfl
  · exact ⟨by omega, by omega, by omega, _, _, _, _, e1, hx, fun z e => h.u1 0 z (by rw [hx, e])⟩
  · rw [Nat.zero_mul] at hy
    exact ⟨by omega, by omega, by omega, _, _, _, _, e2, hy, fun z e => h.u2 0 z (by rw [hy, e])⟩
theorem z29 : Tryd.zeroCells29 = Array.replicate 75 (.slice none 0 0) := by kernel_rfl
theorem z33 : Tryd.zeroCells33.size = 150 := by kernel_rfl
theorem z33b : Tryd.zeroCells33.toList.all (fun v => match v with | .int .u8 _ => false | _ => true) = true := by kernel_rfl
/-- the arrays, new -/
theorem Hv.made (w : World) : Hv ((w.alloc (.cells Tryd.zeroCells29 29)).alloc (.cells Tryd.zeroCells33 33)) w.heap.size (w.heap.size + 1) (fun _ => none) := by
  have h1 : ((w.alloc (.cells Tryd.zeroCells29 29)).alloc (.cells Tryd.zeroCells33 33)).heap[w.heap.size]? = some (.cells Tryd.zeroCells29 29) := alloc_old (alloc_at rfl _)
  have h2 : ((w.alloc (.cells Tryd.zeroCells29 29)).alloc (.cells Tryd.zeroCells33 33)).heap[w.heap.size + 1]? = some (.cells Tryd.zeroCells33 33) := alloc_at (by simp) _
  generalize (w.alloc (.cells Tryd.zeroCells29 29)).alloc (.cells Tryd.zeroCells33 33) = W at *
  have c1 : ∀ off, W.cell? ⟨w.heap.size, off, none⟩ = Tryd.zeroCells29[off]? := fun off => by simp [World.cell?, h1]
  have c2 : ∀ off, W.cell? ⟨w.heap.size + 1, off, none⟩ = Tryd.zeroCells33[off]? := fun off => by simp [World.cell?, h2]
  refine ⟨⟨_, h1⟩, ⟨_, h2⟩, by omega, fun off z => ?_, fun off z => ?_, fun j hj => ?_, fun j hj => ?_, fun j hj _ => ?_, fun j P _ h => by cases h⟩
  · rw [c1, z29, Array.getElem?_replicate]
    split <;> intro e <;> cases e
  · rw [c2]
    intro e
    have := List.all_eq_true.1 z33b _ (Array.mem_toList_iff.2 (Array.mem_of_getElem? e))
    cases this
  · rw [c1, z29, Array.getElem?_replicate, if_pos hj]; exact ⟨_, rfl⟩
  · rw [c2, c2, Array.getElem?_eq_getElem (by rw [z33]; omega), Array.getElem?_eq_getElem (by rw [z33]; omega)]
    exact ⟨_, _, rfl, rfl⟩
  · rw [c1, z29, Array.getElem?_replicate, if_pos hj]
end Go.Proofs.YtagbnacffiagcaaDoor.PairG
