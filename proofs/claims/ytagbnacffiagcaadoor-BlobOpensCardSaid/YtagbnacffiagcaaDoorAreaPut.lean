/- The walk of blob's Put. -/
import Derived.Test.YtagbnacffiagcaaDoorAreaLay
namespace Go.Proofs.YtagbnacffiagcaaDoor.BlobW
open Go Go.RowKit Go.Maps Go.Proofs.YtagbnacffiagcaaDoor.Mem Go.Proofs.YtagbnacffiagcaaDoor.MapsW Go.Proofs.YtagbnacffiagcaaDoor.SeeW Go.Proofs.YtagbnacffiagcaaDoor.DevG
set_option linter.unusedVariables false
set_option maxRecDepth 100000

/-- the first data block; the k-th behind the last one, round -/
def first (b : Nat) : Nat := 2 * GeoW.half b
def spot (b last k : Nat) : Nat := first b + (last - first b + 1 + k) % datas b
/-- where the next one is put -/
def Ar.next (A : Ar) (b : Nat) : Option Nat := ((List.range (datas b)).map (spot b A.last)).find? fun i => A.free (i : Int)
theorem next_some {A : Ar} {b i : Nat} (h : A.next b = some i) : ∃ K, K < datas b ∧ i = spot b A.last K ∧ A.free (i : Int) = true ∧ ∀ j, j < K → A.free (spot b A.last j : Nat) = false := by
  obtain ⟨h1, K, hK, h2, h3⟩ := List.find?_eq_some_iff_getElem.1 h
  rw [List.length_map, List.length_range] at hK
  rw [List.getElem_map, List.getElem_range] at h2
  refine ⟨K, hK, h2.symm, h1, fun j hj => ?_⟩
  have := h3 j hj
  rw [List.getElem_map, List.getElem_range] at this
  simpa using this
theorem next_none {A : Ar} {b : Nat} (h : A.next b = none) : ∀ j, j < datas b → A.free (spot b A.last j : Nat) = false := by
  intro j hj
  have := List.find?_eq_none.1 h (spot b A.last j) (List.mem_map.2 ⟨j, List.mem_range.2 hj, rfl⟩)
  simpa using this
theorem spot_in {b last k : Nat} (h1 : 300 ≤ b) : first b ≤ spot b last k ∧ spot b last k < b := by
  have := datas_pos h1
  have h := Nat.mod_lt (last - first b + 1 + k) this.1
  unfold spot first at *
  omega
theorem first_w (lo d n : Nat) (m : Mp) (D : Dv) (a u k : Nat) (A : Ar) (w : World) (h : AAt w lo d n m D a u k A) :
    Calls Tryd.prog 106 #[ptr a] w fun e w' => e = .returned (.int .i64 (first D.blocks : Nat)) ∧ Below w.heap.size w w' := by
  obtain ⟨c0, c1, c2, c3, c4, c5, f4, f5⟩ := h.c
  have hp := datas_pos h.b1
  have hb2 := h.b2
  have hd := fun w => datas_w D.blocks w h.b2
  have e : ((first D.blocks : Nat) : Int) = (D.blocks : Int) - (datas D.blocks : Int) := by unfold first; omega
  rw [e]
  clear e h
  have hw : IntKind.i64.wrap ((D.blocks : Int) - (datas D.blocks : Int)) = (D.blocks : Int) - (datas D.blocks : Int) := by rw [IntKind.wrap_i64]; omega
  generalize D.blocks = b at *
  generalize datas b = q at *
  generalize GeoW.half b = x at *
  go_enter Tryd.func106, Tryd.ntmps106
  go_wp2_with fail
  go_region_held3 (fun w' => w'.cell? ⟨a, 1, none⟩ = some (.int .i64 b) ∧ w'.cell? ⟨a, 2, none⟩ = some (.int .i64 x))
    (first | exact ⟨c1, c2⟩ | exact ⟨kept b3 c1, kept b3 c2⟩ | go_keep)
    ((go_at_call 104; refine (hd _).mono ?_; rintro e w3 ⟨rfl, b3⟩))
  go_wp2
  go_ret
  exact ⟨rfl, (Below.drew (Below.refl w.heap.size w)).trans b3⟩

/-- a block put -/
def Ar.put (A : Ar) (i : Nat) : Ar := { A.use i with last := i }
def Put (lo d n : Nat) (m : Mp) (D : Dv) (a u k : Nat) (A : Ar) (i : Nat) (l : List Nat) (w : World) (e : Ending) (w' : World) : Prop :=
  e = .returned (.tuple #[.agg #[.int .i64 i, .int .u32 (Crc.sum (Crc.pad l) : Nat)], .nilIface]) ∧ AAt w' lo d n m (D.put i (Crc.pad l)) a u k (A.put i) ∧ Turn (aown d m a u k) w w'
set_option maxHeartbeats 3200000 in
theorem put_w (lo d n : Nat) (m : Mp) (D : Dv) (a u k : Nat) (A : Ar) (i : Nat) (s : Option Addr) (len cap : Nat) (l : List Nat) (w : World) (h : AAt w lo d n m D a u k A) (hl : Nums .u8 w s len cap l) (hlb : Crc.Bytes l) (hlen : len ≤ 256) (hn : n < 90000) (hc : D.calls < 1000000) (hf : D.fuse = 0) (hdn : D.down = false) (hL : first D.blocks ≤ A.last ∧ A.last < D.blocks) (hx : A.next D.blocks = some i) :
    Calls Tryd.prog 62 #[ptr a, .slice s len cap] w (Put lo d (n + 2) m D a u k A i l w) := by
  obtain ⟨K, hK, hiK, hfree, hprev⟩ := next_some hx
  obtain ⟨i1, i2⟩ := spot_in (b := D.blocks) (last := A.last) (k := K) h.b1
  rw [← hiK] at i1 i2
  have hll := hl.len
  have hb2 := h.b2
  have hp := datas_pos h.b1
  have b0 := (Below.refl w.heap.size w).alloc (Nat.le_refl _) (.cells #[.int .i64 0, .int .u32 0] 32)
  have H0 := hid (h.below b0)
  have hl0 := hl.below b0
  have r0 : cells2 w.heap.size (.int .i64 0) (.int .u32 0) (w.alloc (.cells #[.int .i64 0, .int .u32 0] 32)) := heap_alloc_new _ _
  have OLD := hid h.old
  obtain ⟨c0, c1, c2, c3, c4, c5, f4, f5⟩ := (h.below b0).c
  have hla : len ≤ 256 := hlen
  have HX := hid hx
  clear h hl hx
  go_enter Tryd.func62, Tryd.ntmps62
  go_wp2_with fail
  refine (datas_w D.blocks _ hb2).mono ?_
  rintro e w1 ⟨rfl, b1⟩
  have H1 := hid (H0.out.below b1)
  go_wp2_with fail
  refine (first_w lo d n m D a u k A _ H1.out).mono ?_
  rintro e w2 ⟨rfl, b2⟩
  have B2 := b1.trans (b2.mono b1.size)
  have H2 := hid (H0.out.below B2)
  have L2 := hid (hl0.below B2)
  have r2 : cells2 w.heap.size (.int .i64 0) (.int .u32 0) w2 := (B2.block _ (by simp)).trans r0
  have T2 := hid (b0.trans (B2.mono (by simp)))
  obtain ⟨c0, c1, c2, c3, c4, c5, f4, f5⟩ := H2.out.c
  have R2 := hid r2
  clear H0 H1 b1 b2 B2 r0 r2 b0 hl0
  have hN : datas D.blocks ≤ 6000 := by omega
  have hF : first D.blocks ≤ 6000 := by omega
  have hdat : ∀ j : Nat, j ≤ 6000 → ((A.last : Int) - (first D.blocks : Int) + 1 + (j : Int)).tmod (datas D.blocks : Int) = (((A.last - first D.blocks + 1 + j) % datas D.blocks : Nat) : Int) := fun j hj => by
    rw [show (A.last : Int) - (first D.blocks : Int) + 1 + (j : Int) = ((A.last - first D.blocks + 1 + j : Nat) : Int) by omega]
    rfl
  have HD := hid hdat
  have HP := hid hprev
  clear hdat hprev
  go_wp2_with fail
  go_loopw [25] (fun iv wr => ∃ j : Nat, j ≤ K ∧ iv = .int .i64 (j : Int) ∧ wr = w2) (fun iv _ => K + 1 - (intOf iv).toNat)
  case atStart => exact ⟨0, by omega, rfl, rfl⟩
  case round =>
    obtain ⟨j, hj, rfl, rfl⟩ := hrel
    have hjd : j < datas D.blocks := by omega
    have hsp := HD.out j (by omega)
    obtain ⟨s1, s2⟩ := spot_in (b := D.blocks) (last := A.last) (k := j) H2.out.b1
    have hfr := free_w lo d n m D a u k A (spot D.blocks A.last j : Nat) wr H2.out (fits_nat (by omega))
    have hse : (first D.blocks : Int) + (((A.last - first D.blocks + 1 + j) % datas D.blocks : Nat) : Int) = ((spot D.blocks A.last j : Nat) : Int) := by unfold spot; omega
    have hmo := Nat.mod_lt (A.last - first D.blocks + 1 + j) hp.1
    generalize (A.last - first D.blocks + 1 + j) % datas D.blocks = y at *
    by_cases hlt : j < K
    · rw [HP.out j hlt] at hfr
      generalize spot D.blocks A.last j = z at *
      go_wp2_with fail
      refine hfr.mono ?_
      rintro e w' ⟨rfl, rfl⟩
      go_wp2_with fail
      go_roundw
      case rel => exact ⟨j + 1, by omega, by go_num, trivial⟩
      case measure => simp [intOf]; omega
    · obtain rfl : j = K := by omega
      rw [← hiK] at hfr hse
      rw [hfree] at hfr
      have hlay := lay_w lo d n m D a u k A i s len cap l wr H2.out L2.out hlb hlen i2 hn hc hf hdn
      clear s1 s2 hiK
      go_wp2_with fail
      refine hfr.mono ?_
      rintro e w' ⟨rfl, rfl⟩
      go_wp2_with fail
      refine hlay.mono ?_
      rintro e w3 ⟨rfl, A3, T3⟩
      have RO : w.heap.size ∉ aown d m a u k := fun e => by have := OLD.out _ e; omega
      have r3 : cells2 w.heap.size (.int .i64 0) (.int .u32 0) w3 := T3.cells R2.out RO
      have b4 := (Below.refl w3.heap.size w3).alloc (Nat.le_refl _) (.cells #[.int .i64 i, .int .u32 (Crc.sum (Crc.pad l) : Nat)] 32)
      have r4 : cells2 w.heap.size (.int .i64 0) (.int .u32 0) (w3.alloc (.cells #[.int .i64 i, .int .u32 (Crc.sum (Crc.pad l) : Nat)] 32)) := (b4.block _ (Array.getElem?_eq_some_iff.1 r3).1).trans r3
      have A4 := A3.below b4
      have T4 := hid ((Turn.of_below T2.out).then (T3.then (Turn.of_below b4)))
      obtain ⟨y0, y1⟩ := new2 w3 (.int .i64 i) (.int .u32 (Crc.sum (Crc.pad l) : Nat)) 32
      obtain ⟨c0, c1, c2, c3, c4, c5, f4, f5⟩ := A4.c
      have z3 : w.heap.size ≠ w3.heap.size := by have := (Array.getElem?_eq_some_iff.1 r3).1; omega
      have HA4 := hid A4
      have R4 := hid r4
      obtain ⟨x0, x1, f0, f1⟩ := RootW.blk_c r4
      clear hlay A3 T3 r3 b4 A4 hfr r4
      go_wp2_with fail
      obtain ⟨A5, t5⟩ := HA4.out.setL i
      have r5 : cells2 w.heap.size (.int .i64 0) (.int .u32 0) ((w3.alloc (.cells #[.int .i64 i, .int .u32 (Crc.sum (Crc.pad l) : Nat)] 32)).setCell ⟨a, 5, none⟩ (.int .i64 i)) := t5.cells R4.out (fun e => RO (by rw [List.mem_singleton.1 e]; simp))
      have q := turn2 ((w3.alloc (.cells #[.int .i64 i, .int .u32 (Crc.sum (Crc.pad l) : Nat)] 32)).setCell ⟨a, 5, none⟩ (.int .i64 i)) w.heap.size (.int .i64 i) (.int .u32 (Crc.sum (Crc.pad l) : Nat))
      refine bodyPost_ret (v := .tuple #[.agg #[.int .i64 i, .int .u32 (Crc.sum (Crc.pad l) : Nat)], .nilIface]) (by simp [results, Tryd.results62, go_sem, (RootW.blk_c r5).1, (RootW.blk_c r5).2.1]) rfl ⟨rfl, A5.away q (fun x hx e => RO (by rw [← List.mem_singleton.1 hx]; exact e)) (fun x hx => ?_), (T4.out.then (t5.mono fun x hx => by rw [List.mem_singleton.1 hx]; simp)).trans q fun x hx => .inr (by rw [List.mem_singleton.1 hx]; exact Nat.le_refl _)⟩
      rw [List.mem_singleton.1 hx]
      exact .inr ⟨_, (RootW.blk_c r5).1, fun z e => by cases e⟩
end Go.Proofs.YtagbnacffiagcaaDoor.BlobW
