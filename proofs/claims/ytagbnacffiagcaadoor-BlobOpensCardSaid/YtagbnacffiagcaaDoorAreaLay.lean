/- The walk of blob's lay. -/
import Derived.Test.YtagbnacffiagcaaDoorArea
import Derived.Test.YtagbnacffiagcaaDoorFull
import Derived.Test.YtagbnacffiagcaaDoorCrcWalk
import Derived.Test.YtagbnacffiagcaaDoorRefs
import Derived.Deep.CutRange
namespace Go.Proofs.YtagbnacffiagcaaDoor.BlobW
open Go Go.RowKit Go.Maps Go.Proofs.YtagbnacffiagcaaDoor.Mem Go.Proofs.YtagbnacffiagcaaDoor.MapsW Go.Proofs.YtagbnacffiagcaaDoor.SeeW Go.Proofs.YtagbnacffiagcaaDoor.DevG
set_option linter.unusedVariables false
set_option maxRecDepth 100000

/-- what is written elsewhere leaves the area -/
theorem AAt.away {w w' : World} {lo d n : Nat} {m : Mp} {D : Dv} {a u k : Nat} {A : Ar} {S : List Nat} (h : AAt w lo d n m D a u k A) (ht : Turn S w w') (hS : ∀ x ∈ S, x ∉ aown d m a u k) (hc : ∀ x ∈ S, NoCells w x ∨ ∃ v, w.cell? ⟨x, 0, none⟩ = some v ∧ ∀ z, v ≠ .int .u8 z) : AAt w' lo d n m D a u k A := by
  have hd : d ∈ aown d m a u k := own_sub (mem_own d m).1
  have ha : a ∈ aown d m a u k := by simp
  have hu : u ∈ aown d m a u k := by simp
  have hk : k ∈ aown d m a u k := by simp
  exact ⟨h.dev.turn ht (fun e => hS _ e hd) (fun x hx e => hS _ e (own_sub (List.mem_cons_of_mem _ hx))) hc, ht.cells h.cells (fun e => hS _ e ha), h.mu.still (ht.block u h.ult fun e => hS _ e hu), h.mh.still (ht.block k h.klt fun e => hS _ e hk), h.ne, h.outu, h.outk, h.loa, h.lou, h.lok, h.b1, h.b2⟩
/-- a block put in use -/
def Ar.use (A : Ar) (i : Int) : Ar := { A with used := upd A.used i true, nu := if A.used i then A.nu else A.nu + 1 }
abbrev cells2 (R : Nat) (x y : Value) (w : World) : Prop := w.heap[R]? = some (.cells #[x, y] 32)
theorem set2 {w : World} {R : Nat} {x y x' y' : Value} (h : cells2 R x y w) : cells2 R x' y' ((w.setCell ⟨R, 0, none⟩ x').setCell ⟨R, 1, none⟩ y') := by
  have h' : w.heap[R]? = some (.cells #[x, y] 32) := h
  show ((w.setCell ⟨R, 0, none⟩ x').setCell ⟨R, 1, none⟩ y').heap[R]? = _
  simp [World.setCell, Array.getElem?_modify, h']
theorem turn2 (w : World) (R : Nat) (x y : Value) : Turn [R] w ((w.setCell ⟨R, 0, none⟩ x).setCell ⟨R, 1, none⟩ y) :=
  (Turn.setCell w R 0 x (by simp)).then (Turn.setCell _ R 1 y (by simp))
/-- what is handed back of a block laid down -/
def Laid (lo d n : Nat) (m : Mp) (D : Dv) (a u k : Nat) (A : Ar) (i : Nat) (l : List Nat) (w : World) (e : Ending) (w' : World) : Prop :=
  e = .returned (.tuple #[.agg #[.int .i64 i, .int .u32 (Crc.sum (Crc.pad l) : Nat)], .nilIface]) ∧ AAt w' lo d n m (D.put i (Crc.pad l)) a u k (A.use i) ∧ Turn (aown d m a u k) w w'
set_option maxHeartbeats 3200000 in
theorem lay_w (lo d n : Nat) (m : Mp) (D : Dv) (a u k : Nat) (A : Ar) (i : Nat) (s : Option Addr) (len cap : Nat) (l : List Nat) (w : World) (h : AAt w lo d n m D a u k A) (hl : Nums .u8 w s len cap l) (hlb : Crc.Bytes l) (hlen : len ≤ 256) (hi : i < D.blocks) (hn : n < 90000) (hc : D.calls < 1000000) (hf : D.fuse = 0) (hdn : D.down = false) :
    Calls Tryd.prog 108 #[ptr a, .int .i64 i, .slice s len cap] w (Laid lo d (n + 2) m D a u k A i l w) := by
  have hll := hl.len
  have HLB := hid hlb
  have hfi : Fits (i : Int) := fits_nat (by have := h.b2; omega)
  have b0 := (Below.refl w.heap.size w).alloc (Nat.le_refl _) (.cells #[.int .i64 0, .int .u32 0] 32)
  have hl0 := hl.below b0
  have r0 : cells2 w.heap.size (.int .i64 0) (.int .u32 0) (w.alloc (.cells #[.int .i64 0, .int .u32 0] 32)) := heap_alloc_new _ _
  have hz0 : (w.alloc (.cells #[.int .i64 0, .int .u32 0] 32)).heap.size = w.heap.size + 1 := by simp
  have OLD := hid h.old
  have H := hid h
  clear h hl
  go_enter Tryd.func108, Tryd.ntmps108
  go_upto_region 2 with (at_make; go_must (refine wpList_mkn RefW.elU8 rfl _ _ rfl (w.heap.size + 1) _ _ _ _ 256 rfl rfl rfl rfl (by decide) (by decide) (by simp) ?_); intro w1 hown1 hg1)
  rw [RefW.made_nums, hz0] at hown1
  have H1 := own_heap hown1
  have g1 := below_growns hg1 (Nat.le_refl _)
  have hl1 := hl0.below g1
  have r1 : cells2 w.heap.size (.int .i64 0) (.int .u32 0) w1 := (g1.block w.heap.size (by simp)).trans r0
  have b1 := b0.trans (g1.mono (by omega))
  have z1 := g1.size
  rw [hz0] at z1
  have HC := hid (show 0 < (nums .u8 l).length → ∃ ad, s = some ad ∧ ∀ j v, (nums .u8 l)[j]? = some v → w1.cell? (ad.add j) = some v from fun q => src hl1 (by rw [nums_length, hll] at q; exact q))
  clear hown1 hg1 g1 hl0 r0 hz0 b0 hl1
  go_upto_region 3 with (refine wpList_copy_splice (o := ⟨some 13, _, _, _, _, _⟩) rfl (.tmp 11) (.tmp 12) _ _ rfl 5 Tryd.underlying28 (by kernel_rfl) _ _ 256 256 len cap rfl rfl (w.heap.size + 1) 0 (nums .u8 (List.replicate 256 0)) 5 H1 (nums .u8 l) (by rw [nums_length, hll]; exact (Nat.min_eq_left hlen).symm) (fun q => ⟨rfl, HC.out q⟩) (by rw [nums_length, nums_length, hll, List.length_replicate]; omega) (nums_oneCell _ _) (w.heap.size + 1) w1 (Below.refl _ _) (Nat.le_refl _) ?_; intro w2 H2 hb2)
  replace H2 := H2.out
  rw [splice_nums, splice_pad] at H2
  have B2 := b1.trans (hb2.mono (Nat.le_succ _))
  have h2 := H.out.below B2
  have r2 : cells2 w.heap.size (.int .i64 0) (.int .u32 0) w2 := (hb2.block w.heap.size (Nat.lt_succ_self _)).trans r1
  have n2 : Nums .u8 w2 (some ⟨w.heap.size + 1, 0, none⟩) 256 256 (Crc.pad l) := (heap_own H2 (Nat.le_refl _) (Crc.pad_length (by omega))).nums
  have htk : D.tick = D := Dv.tick_zero hf
  have hw := write_ok d lo n m D i _ 256 (Crc.pad l) w2 h2.dev hi h2.b2 n2 (by omega) hc (by omega) (by rw [htk]; exact hdn)
  rw [htk] at hw
  obtain ⟨c0, c1, c2, c3, c4, c5, f4, f5⟩ := h2.c
  have H2' := hid h2
  have OUT : w.heap.size ∉ own d m := fun e => by have := OLD.out _ (own_sub e); omega
  have N2 := hid (fun w' (t : Turn (own d m) w2 w') => nums_turn n2 t h2.dev.nou8)
  clear H1 HC r1 b1 hb2 h2 H2 n2 hlb
  go_wp2_with fail
  refine hw.mono ?_
  rintro e w3 ⟨rfl, h3, t3⟩
  have A3 := H2'.out.turn' h3 t3 rfl (Nat.le_succ n)
  have r3 : cells2 w.heap.size (.int .i64 0) (.int .u32 0) w3 := t3.cells r2 OUT
  have n3 := N2.out _ t3
  have T3 := hid ((Turn.of_below (S := own d m) B2).then t3)
  obtain ⟨c0, c1, c2, c3, c4, c5, f4, f5⟩ := A3.c
  have HA3 := hid A3
  clear hw h3 t3 r2 H2' N2 B2 A3
  go_wp2_with (at_mapUpdate; refine wpList_putNum _ rfl _ _ _ rfl HA3.out.mu (by omega) hfi rfl rfl rfl ?_; intro w4 hr4 hg4)
  obtain ⟨A4, t4⟩ := HA3.out.setU hg4 hr4 (Nat.le_succ _)
  have ru : w.heap.size ∉ [u] := fun e => by
    have := OLD.out u (by simp)
    rw [List.mem_singleton.1 e] at this
    omega
  have r4 : cells2 w.heap.size (.int .i64 0) (.int .u32 0) w4 := t4.cells r3 ru
  have n4 := nums_turn n3 t4 fun x hx off z => HA3.out.nou8 x (by rw [List.mem_singleton.1 hx]; simp) off z
  have T4 := hid ((T3.out.mono (S' := aown d m a u k) fun x hx => own_sub hx).then (t4.mono fun x hx => by rw [List.mem_singleton.1 hx]; simp))
  have HA4 := hid A4
  clear HA3 n3 r3 T3 hr4 hg4 t4 A4 c0 c1 c2 c3 c4 c5 f4 f5
  go_wp2_with fail
  refine (CrcW.sum_w _ 256 256 _ _ n4 (Crc.pad_bytes HLB.out)).mono ?_
  rintro e w5 ⟨rfl, rfl⟩
  obtain ⟨x0, x1, f0, f1⟩ := RootW.blk_c r4
  clear n4
  go_wp2_with fail
  have q := turn2 w4 w.heap.size (.int .i64 i) (.int .u32 (Crc.sum (Crc.pad l) : Nat))
  refine bodyPost_ret (v := .tuple #[.agg #[.int .i64 i, .int .u32 (Crc.sum (Crc.pad l) : Nat)], .nilIface]) (by simp [results, Tryd.results108, go_sem, x0, x1]) rfl ⟨rfl, HA4.out.away q (fun x hx e => ?_) (fun x hx => ?_), T4.out.trans q fun x hx => .inr (by rw [List.mem_singleton.1 hx]; exact Nat.le_refl _)⟩
  · rw [List.mem_singleton.1 hx] at e
    have := OLD.out _ e
    omega
  · rw [List.mem_singleton.1 hx]
    exact .inr ⟨_, x0, fun z e => by cases e⟩
end Go.Proofs.YtagbnacffiagcaaDoor.BlobW
