/- A pair mended. -/
import Derived.Test.YtagbnacffiagcaaDoorGPairRead
namespace Go.Proofs.YtagbnacffiagcaaDoor.PairG
open Go Go.RowKit Go.Maps Go.Proofs.YtagbnacffiagcaaDoor.Mem Go.Proofs.YtagbnacffiagcaaDoor.MapsW Go.Proofs.YtagbnacffiagcaaDoor.SeeW Go.Proofs.YtagbnacffiagcaaDoor.DevG
set_option linter.unusedVariables false
set_option maxRecDepth 100000

/-- what Mend gives: how many, or that it can't be; the device then; how many were mended -/
def MendTo (bs : List Addr) (w : World) (lo d n : Nat) (m : Mp) (p h : Nat) (r : Option Nat) (D' : Dv) (c' : Nat) (e : Ending) (w' : World) : Prop :=
  (match r with
    | some k => e = .returned (.tuple #[.int .i64 k, .nilIface])
    | none => ∃ a, bs[6]? = some a ∧ e = .returned (.tuple #[.int .i64 0, ev a])) ∧ PAt w' lo d (n + 1) m D' p h c' ∧ Turn (p :: own d m) w w'

set_option maxHeartbeats 3200000 in
theorem mend_both (bs : List Addr) (lo d n : Nat) (m : Mp) (D : Dv) (p h c : Nat) (i s : Nat) (w : World) (k : PAt w lo d n m D p h c) (hB : Ev w lo bs five) (hi : i < h) (hbt : ∀ j l, D.read j = some l → Crc.Bytes l) (r1 : right D i s = true) (r2 : right D (i + h) s = true) :
    Calls Tryd.prog 22 #[ptr p, Rf i s] w (MendTo bs w lo d n m p h (some 0) D c) := by
  have hhf := k.half
  have hmo := k.most
  have hf : Fits (i : Int) := fits_nat (by omega)
  have hd : decide (0 ≤ (i : Int) ∧ (i : Int) < h) = true := by rw [decide_eq_true_eq]; omega
  have bx := (Below.refl w.heap.size w).alloc (Nat.le_refl _) (.cells #[.int .i64 i, .int .u32 s] 32)
  obtain ⟨q0, q1⟩ := new2 w (.int .i64 i) (.int .u32 s) 32
  have kx := k.below bx
  have f1 : IntKind.i64.wrap ((i : Int) + (h : Int)) = ((i + h : Nat) : Int) := by rw [IntKind.wrap_i64]; omega
  have o1 := fun w k hB => one_any bs lo d n m D p h c i s w k hB (by omega) hbt
  have o2 := fun w k hB => one_any bs lo d n m D p h c (i + h) s w k hB (by omega) hbt
  rw [r1] at o1
  rw [r2] at o2
  go_enter Tryd.func22, Tryd.ntmps22
  go_wp2_with fail
  refine (is_w lo d n m D p h c i _ kx hf).mono ?_
  rintro e w' ⟨rfl, rfl⟩
  rw [hd]
  go_wp2_with fail
  refine (o1 _ kx (hB.below bx)).mono ?_
  rintro e w1 ⟨⟨a1, n1, cp1, rfl, _⟩, hb1⟩
  have k1 := kx.below hb1
  have hB1 := (hB.below bx).below hb1
  replace q0 := kept hb1 q0
  replace q1 := kept hb1 q1
  have hb01 : Below w.heap.size w w1 := bx.trans (hb1.mono (by simp))
  obtain ⟨c0, c1, c2, c3, f3⟩ := k1.c
  clear k kx bx hb1
  go_wp2_with fail
  go_region_held3 (fun w' => w'.cell? ⟨w.heap.size, 0, none⟩ = some (.int .i64 i) ∧ w'.cell? ⟨w.heap.size, 1, none⟩ = some (.int .u32 s) ∧ w'.cell? ⟨p, 2, none⟩ = some (.int .i64 h)) (first | exact ⟨q0, q1, c2⟩ | exact ⟨y0, y1, y2⟩ | go_keep)
    ((go_at_call 81; refine (o2 _ (k1.below (below_drewN (Below.refl _ _) 1)) (hB1.below (below_drewN (Below.refl _ _) 1))).mono ?_; rintro e w2 ⟨⟨a2, n2, cp2, rfl, _⟩, hb2⟩; have y0 := kept hb2 q0; have y1 := kept hb2 q1; have y2 := kept hb2 c2))
  have k2 := (k1.below (below_drewN (Below.refl _ _) 1)).below hb2
  have hb02 : Below w.heap.size w w2 := (below_drewN hb01 1).trans (hb2.mono hb01.size)
  go_wp2
  refine bodyPost_ret (v := .tuple #[.int .i64 0, .nilIface]) (by simp [results, Tryd.results22, go_sem]) rfl ⟨rfl, k2.mono (by omega) (Nat.le_refl _), Turn.of_below hb02⟩

set_option maxHeartbeats 3200000 in
theorem mend_none (bs : List Addr) (lo d n : Nat) (m : Mp) (D : Dv) (p h c : Nat) (i s : Nat) (w : World) (k : PAt w lo d n m D p h c) (hB : Ev w lo bs five) (hi : i < h) (hbt : ∀ j l, D.read j = some l → Crc.Bytes l) (r1 : right D i s = false) (r2 : right D (i + h) s = false) :
    Calls Tryd.prog 22 #[ptr p, Rf i s] w (MendTo bs w lo d n m p h none D c) := by
  have hhf := k.half
  have hmo := k.most
  have hf : Fits (i : Int) := fits_nat (by omega)
  have hd : decide (0 ≤ (i : Int) ∧ (i : Int) < h) = true := by rw [decide_eq_true_eq]; omega
  have bx := (Below.refl w.heap.size w).alloc (Nat.le_refl _) (.cells #[.int .i64 i, .int .u32 s] 32)
  obtain ⟨q0, q1⟩ := new2 w (.int .i64 i) (.int .u32 s) 32
  have kx := k.below bx
  have f1 : IntKind.i64.wrap ((i : Int) + (h : Int)) = ((i + h : Nat) : Int) := by rw [IntKind.wrap_i64]; omega
  have o1 := fun w k hB => one_any bs lo d n m D p h c i s w k hB (by omega) hbt
  have o2 := fun w k hB => one_any bs lo d n m D p h c (i + h) s w k hB (by omega) hbt
  rw [r1] at o1
  rw [r2] at o2
  go_enter Tryd.func22, Tryd.ntmps22
  go_wp2_with fail
  refine (is_w lo d n m D p h c i _ kx hf).mono ?_
  rintro e w' ⟨rfl, rfl⟩
  rw [hd]
  go_wp2_with fail
  refine (o1 _ kx (hB.below bx)).mono ?_
  rintro e w1 ⟨⟨a1, n1, cp1, rfl, _⟩, hb1⟩
  have k1 := kx.below hb1
  have hB1 := (hB.below bx).below hb1
  replace q0 := kept hb1 q0
  replace q1 := kept hb1 q1
  have hb01 : Below w.heap.size w w1 := bx.trans (hb1.mono (by simp))
  obtain ⟨c0, c1, c2, c3, f3⟩ := k1.c
  clear k kx bx hb1
  go_wp2_with fail
  go_region_held3 (fun w' => w'.cell? ⟨w.heap.size, 0, none⟩ = some (.int .i64 i) ∧ w'.cell? ⟨w.heap.size, 1, none⟩ = some (.int .u32 s) ∧ w'.cell? ⟨p, 2, none⟩ = some (.int .i64 h)) (first | exact ⟨q0, q1, c2⟩ | exact ⟨y0, y1, y2⟩ | go_keep)
    ((go_at_call 81; refine (o2 _ (k1.below (below_drewN (Below.refl _ _) 1)) (hB1.below (below_drewN (Below.refl _ _) 1))).mono ?_; rintro e w2 ⟨⟨a2, n2, cp2, rfl, _⟩, hb2⟩; have y0 := kept hb2 q0; have y1 := kept hb2 q1; have y2 := kept hb2 c2))
  have k2 := (k1.below (below_drewN (Below.refl _ _) 1)).below hb2
  have hb02 : Below w.heap.size w w2 := (below_drewN hb01 1).trans (hb2.mono hb01.size)
  obtain ⟨aI, haI, hAI⟩ := (hB.below hb02).get 6 _ (by decide) rfl
  have hA1 := hAI.1
  go_wp2
  go_quiet (fail)
  go_wp2
  refine bodyPost_ret (v := .tuple #[.int .i64 0, ev aI]) (by simp [results, Tryd.results22, go_sem]) rfl ⟨⟨aI, haI, rfl⟩, (k2.below (below_drewN (Below.refl _ _) _)).mono (by omega) (Nat.le_refl _), Turn.of_below (below_drewN hb02 _)⟩

set_option maxHeartbeats 3200000 in
theorem mend_second (bs : List Addr) (lo d n : Nat) (m : Mp) (D : Dv) (p h c : Nat) (i s : Nat) (w : World) (k : PAt w lo d n m D p h c) (hB : Ev w lo bs five) (hi : i < h) (hbt : ∀ j l, D.read j = some l → Crc.Bytes l) (r1 : right D i s = false) (r2 : right D (i + h) s = true) {l : List Nat} (hl : D.read (i + h : Nat) = some l) (hn : n < 90000) (hc : D.calls < 1000000) (hc2 : c < 1000000) :
    Calls Tryd.prog 22 #[ptr p, Rf i s] w (MendTo bs w lo d n m p h (some 1) (D.put i l) (c + 1)) := by
  have hhf := k.half
  have hmo := k.most
  have hf : Fits (i : Int) := fits_nat (by omega)
  have hd : decide (0 ≤ (i : Int) ∧ (i : Int) < h) = true := by rw [decide_eq_true_eq]; omega
  have bx := (Below.refl w.heap.size w).alloc (Nat.le_refl _) (.cells #[.int .i64 i, .int .u32 s] 32)
  obtain ⟨q0, q1⟩ := new2 w (.int .i64 i) (.int .u32 s) 32
  have kx := k.below bx
  have f1 : IntKind.i64.wrap ((i : Int) + (h : Int)) = ((i + h : Nat) : Int) := by rw [IntKind.wrap_i64]; omega
  have o1 := fun w k hB => one_any bs lo d n m D p h c i s w k hB (by omega) hbt
  have o2 := fun w k hB => one_any bs lo d n m D p h c (i + h) s w k hB (by omega) hbt
  rw [r1] at o1
  rw [r2] at o2
  go_enter Tryd.func22, Tryd.ntmps22
  go_wp2_with fail
  refine (is_w lo d n m D p h c i _ kx hf).mono ?_
  rintro e w' ⟨rfl, rfl⟩
  rw [hd]
  go_wp2_with fail
  refine (o1 _ kx (hB.below bx)).mono ?_
  rintro e w1 ⟨⟨a1, n1, cp1, rfl, _⟩, hb1⟩
  have k1 := kx.below hb1
  have hB1 := (hB.below bx).below hb1
  replace q0 := kept hb1 q0
  replace q1 := kept hb1 q1
  have hb01 : Below w.heap.size w w1 := bx.trans (hb1.mono (by simp))
  obtain ⟨c0, c1, c2, c3, f3⟩ := k1.c
  clear k kx bx hb1
  go_wp2_with fail
  go_region_held3 (fun w' => w'.cell? ⟨w.heap.size, 0, none⟩ = some (.int .i64 i) ∧ w'.cell? ⟨w.heap.size, 1, none⟩ = some (.int .u32 s) ∧ w'.cell? ⟨p, 2, none⟩ = some (.int .i64 h)) (first | exact ⟨q0, q1, c2⟩ | exact ⟨y0, y1, y2⟩ | go_keep)
    ((go_at_call 81; refine (o2 _ (k1.below (below_drewN (Below.refl _ _) 1)) (hB1.below (below_drewN (Below.refl _ _) 1))).mono ?_; rintro e w2 ⟨⟨a2, n2, cp2, rfl, hgl⟩, hb2⟩; obtain ⟨g, l', rfl, rfl, hn2, hl', hg⟩ := hgl trivial; have y0 := kept hb2 q0; have y1 := kept hb2 q1; have y2 := kept hb2 c2))
  have k2 := (k1.below (below_drewN (Below.refl _ _) 1)).below hb2
  have hb02 : Below w.heap.size w w2 := (below_drewN hb01 1).trans (hb2.mono hb01.size)
  rw [hl] at hl'
  cases hl'
  go_wp2_with fail
  refine (mend_w lo d n m D p h c i _ cp2 l _ k2 (by omega) hn2 (by omega) hc hc2).mono ?_
  rintro e w3 ⟨rfl, k3, t3⟩
  go_wp2
  refine bodyPost_ret (v := .tuple #[.int .i64 1, .nilIface]) (by simp [results, Tryd.results22, go_sem]) rfl ⟨rfl, k3, (Turn.of_below hb02).then t3⟩

set_option maxHeartbeats 3200000 in
theorem mend_first (bs : List Addr) (lo d n : Nat) (m : Mp) (D : Dv) (p h c : Nat) (i s : Nat) (w : World) (k : PAt w lo d n m D p h c) (hB : Ev w lo bs five) (hi : i < h) (hbt : ∀ j l, D.read j = some l → Crc.Bytes l) (r1 : right D i s = true) (r2 : right D (i + h) s = false) {l : List Nat} (hl : D.read i = some l) (hn : n < 90000) (hc : D.calls < 1000000) (hc2 : c < 1000000) :
    Calls Tryd.prog 22 #[ptr p, Rf i s] w (MendTo bs w lo d n m p h (some 1) (D.put (i + h : Nat) l) (c + 1)) := by
  have hhf := k.half
  have hmo := k.most
  have hf : Fits (i : Int) := fits_nat (by omega)
  have hd : decide (0 ≤ (i : Int) ∧ (i : Int) < h) = true := by rw [decide_eq_true_eq]; omega
  have bx := (Below.refl w.heap.size w).alloc (Nat.le_refl _) (.cells #[.int .i64 i, .int .u32 s] 32)
  obtain ⟨q0, q1⟩ := new2 w (.int .i64 i) (.int .u32 s) 32
  have kx := k.below bx
  have f1 : IntKind.i64.wrap ((i : Int) + (h : Int)) = ((i + h : Nat) : Int) := by rw [IntKind.wrap_i64]; omega
  have o1 := fun w k hB => one_any bs lo d n m D p h c i s w k hB (by omega) hbt
  have o2 := fun w k hB => one_any bs lo d n m D p h c (i + h) s w k hB (by omega) hbt
  rw [r1] at o1
  rw [r2] at o2
  go_enter Tryd.func22, Tryd.ntmps22
  go_wp2_with fail
  refine (is_w lo d n m D p h c i _ kx hf).mono ?_
  rintro e w' ⟨rfl, rfl⟩
  rw [hd]
  go_wp2_with fail
  refine (o1 _ kx (hB.below bx)).mono ?_
  rintro e w1 ⟨⟨a1, n1, cp1, rfl, hgl⟩, hb1⟩
  obtain ⟨g, l', rfl, rfl, hn1, hl', hg⟩ := hgl trivial
  rw [hl] at hl'
  cases hl'
  have k1 := kx.below hb1
  have hB1 := (hB.below bx).below hb1
  replace q0 := kept hb1 q0
  replace q1 := kept hb1 q1
  have hb01 : Below w.heap.size w w1 := bx.trans (hb1.mono (by simp))
  obtain ⟨c0, c1, c2, c3, f3⟩ := k1.c
  clear k kx bx hb1
  go_wp2_with fail
  go_region_held3 (fun w' => w'.cell? ⟨w.heap.size, 0, none⟩ = some (.int .i64 i) ∧ w'.cell? ⟨w.heap.size, 1, none⟩ = some (.int .u32 s) ∧ w'.cell? ⟨p, 2, none⟩ = some (.int .i64 h)) (first | exact ⟨q0, q1, c2⟩ | exact ⟨y0, y1, y2⟩ | go_keep)
    ((go_at_call 81; refine (o2 _ (k1.below (below_drewN (Below.refl _ _) 1)) (hB1.below (below_drewN (Below.refl _ _) 1))).mono ?_; rintro e w2 ⟨⟨a2, n2, cp2, rfl, _⟩, hb2⟩; have y0 := kept hb2 q0; have y1 := kept hb2 q1; have y2 := kept hb2 c2))
  have k2 := (k1.below (below_drewN (Below.refl _ _) 1)).below hb2
  have hb02 : Below w.heap.size w w2 := (below_drewN hb01 1).trans (hb2.mono hb01.size)
  have hn2 := (hn1.below (below_drewN (Below.refl _ _) 1)).below hb2
  have hws : w.heap.size < w2.heap.size := World.block_lt_of_cell? _ _ y0
  have hwp : w.heap.size ≠ p := by
    rintro rfl
    have := k2.c.1
    rw [y0] at this
    cases this
  have hwd : w.heap.size ≠ d := by
    intro e
    have := k2.dev.c.1
    have h3 := k2.dev.c.2.1
    rw [← e, y1] at h3
    cases h3
  obtain ⟨cc, ct, cf, hcc⟩ := cell_cells y0
  have hout := k2.dev.out hcc hwd
  have cc2 := k2.c.2.2.1
  go_wp2_with fail
  go_region_held3 (fun w' => w'.cell? ⟨w.heap.size, 0, none⟩ = some (.int .i64 i) ∧ w'.cell? ⟨p, 2, none⟩ = some (.int .i64 h)) (first | exact ⟨y0, y2⟩ | exact ⟨z0, z2⟩ | go_keep)
    ((go_at_call 82; refine (mend_w lo d n m D p h c (i + h) _ cp1 l _ (k2.below (below_drewN (Below.refl _ _) 1)) (by omega) (hn2.below (below_drewN (Below.refl _ _) 1)) (by omega) hc hc2).mono ?_; rintro e w3 ⟨rfl, k3, t3⟩; have hbl := t3.block w.heap.size (by exact hws) (by
        intro hm
        rcases List.mem_cons.1 hm with e | hm
        · exact hwp e
        · exact hout hm); have z0 : w3.cell? ⟨w.heap.size, 0, none⟩ = some (.int .i64 i) := (World.cell?_of_block (w := w2) hbl).trans y0; have z2 := k3.c.2.2.1))
  have hT := (Turn.of_below (S := p :: own d m) (below_drewN hb02 1)).then t3
  go_wp2
  refine bodyPost_ret (v := .tuple #[.int .i64 1, .nilIface]) (by simp [results, Tryd.results22, go_sem]) rfl ⟨rfl, k3, hT⟩
end Go.Proofs.YtagbnacffiagcaaDoor.PairG
