/- A pair read where the first copy is not right. -/
import Derived.Test.YtagbnacffiagcaaDoorGPairOne
import Derived.Deep.RegionHeld3
namespace Go.Proofs.YtagbnacffiagcaaDoor.PairG
open Go Go.RowKit Go.Maps Go.Proofs.YtagbnacffiagcaaDoor.Mem Go.Proofs.YtagbnacffiagcaaDoor.MapsW Go.Proofs.YtagbnacffiagcaaDoor.SeeW Go.Proofs.YtagbnacffiagcaaDoor.DevG
set_option linter.unusedVariables false
set_option maxRecDepth 100000

set_option maxHeartbeats 3200000 in
theorem read_second (bs : List Addr) (lo d n : Nat) (m : Mp) (D : Dv) (p h c : Nat) (i s : Nat) (w : World) (k : PAt w lo d n m D p h c) (hB : Ev w lo bs five) (hi : i < h) (hbt : ∀ j l, D.read j = some l → Crc.Bytes l) (hns : ∀ l, D.read i = some l → Crc.sum l ≠ s) {l : List Nat} (h1 : D.read (i + h : Nat) = some l) (h2 : Crc.sum l = s) (hn : n < 90000) (hc : D.calls < 1000000) (hc2 : c < 1000000) :
    Calls Tryd.prog 19 #[ptr p, Rf i s] w (ReadTo bs w lo d n m p h (some l, D.put i l, c + 1)) := by
  have hhf := k.half
  have hmo := k.most
  have hf : Fits (i : Int) := fits_nat (by omega)
  have hd : decide (0 ≤ (i : Int) ∧ (i : Int) < h) = true := by rw [decide_eq_true_eq]; omega
  have bx := (Below.refl w.heap.size w).alloc (Nat.le_refl _) (.cells #[.int .i64 i, .int .u32 s] 32)
  obtain ⟨q0, q1⟩ := new2 w (.int .i64 i) (.int .u32 s) 32
  have kx := k.below bx
  have f1 : IntKind.i64.wrap ((i : Int) + (h : Int)) = ((i + h : Nat) : Int) := by rw [IntKind.wrap_i64]; omega
  go_enter Tryd.func19, Tryd.ntmps19
  go_wp2_with fail
  refine (is_w lo d n m D p h c i _ kx hf).mono ?_
  rintro e w' ⟨rfl, rfl⟩
  rw [hd]
  go_wp2_with fail
  refine (one_not bs lo d n m D p h c i s _ kx (hB.below bx) (by omega) (fun l hl => hbt i l hl) hns).mono ?_
  rintro e w1 ⟨⟨a1, n1, cp1, rfl⟩, hb1⟩
  have k1 := kx.below hb1
  have hB1 := (hB.below bx).below hb1
  replace q0 := kept hb1 q0
  replace q1 := kept hb1 q1
  have hb01 : Below w.heap.size w w1 := bx.trans (hb1.mono (by simp))
  obtain ⟨c0, c1, c2, c3, f3⟩ := k1.c
  clear k kx hB bx hb1
  go_wp2_with fail
  go_region_held3 (fun w' => w'.cell? ⟨w.heap.size, 0, none⟩ = some (.int .i64 i) ∧ w'.cell? ⟨w.heap.size, 1, none⟩ = some (.int .u32 s) ∧ w'.cell? ⟨p, 2, none⟩ = some (.int .i64 h)) (first | exact ⟨q0, q1, c2⟩ | exact ⟨y0, y1, y2⟩ | go_keep)
    ((go_at_call 81; refine (one_w bs lo d n m D p h c (i + h) s _ (k1.below (below_drewN (Below.refl _ _) 1)) (hB1.below (below_drewN (Below.refl _ _) 1)) (by omega) (fun l hl => hbt _ l hl)).mono ?_; rw [h1]; unfold One; simp only [h2, decide_true]; rintro e w2 ⟨⟨g, cap, rfl, hn2, hg⟩, hb2⟩; have y0 := kept hb2 q0; have y1 := kept hb2 q1; have y2 := kept hb2 c2))
  have k2 := (k1.below (below_drewN (Below.refl _ _) 1)).below hb2
  have hb02 : Below w.heap.size w w2 := (below_drewN hb01 1).trans (hb2.mono hb01.size)
  have z1 := hb01.size
  have hg' : w1.heap.size ≤ g := hg
  have hgp : g ≠ p := by
    have := (Array.getElem?_eq_some_iff.1 k1.cells).1
    omega
  have hgd : g ≠ d := by
    have := k1.dev.dlt
    omega
  obtain ⟨cc, ct, cf, hcc⟩ := nums_cells hn2 (by decide)
  have hout := k2.dev.out hcc hgd
  go_wp2_with fail
  refine (mend_w lo d n m D p h c i _ cap l _ k2 (by omega) hn2 (by omega) hc hc2).mono ?_
  rintro e w3 ⟨rfl, k3, t3⟩
  have hn3 := nums_of_cells hn2 (t3.block g (Array.getElem?_eq_some_iff.1 hcc).1 (by
    intro hm
    rcases List.mem_cons.1 hm with e | hm
    · exact hgp e
    · exact hout hm))
  have hT : Turn (p :: own d m) w w3 := (Turn.of_below hb02).then t3
  clear k1 k2 q0 q1 c0 c1 c2 c3 f3 y0 y1 y2
  go_wp2
  refine bodyPost_ret (v := .tuple #[.slice (some ⟨g, 0, none⟩) 256 cap, .nilIface]) (by simp [results, Tryd.results19, go_sem]) rfl ⟨⟨g, cap, rfl, hn3, by omega⟩, k3, hT⟩

set_option maxHeartbeats 3200000 in
theorem read_none (bs : List Addr) (lo d n : Nat) (m : Mp) (D : Dv) (p h c : Nat) (i s : Nat) (w : World) (k : PAt w lo d n m D p h c) (hB : Ev w lo bs five) (hi : i < h) (hbt : ∀ j l, D.read j = some l → Crc.Bytes l) (hns : ∀ l, D.read i = some l → Crc.sum l ≠ s) (hn2 : ∀ l, D.read (i + h : Nat) = some l → Crc.sum l ≠ s) :
    Calls Tryd.prog 19 #[ptr p, Rf i s] w (ReadTo bs w lo d n m p h (none, D, c)) := by
  have hhf := k.half
  have hmo := k.most
  have hf : Fits (i : Int) := fits_nat (by omega)
  have hd : decide (0 ≤ (i : Int) ∧ (i : Int) < h) = true := by rw [decide_eq_true_eq]; omega
  have bx := (Below.refl w.heap.size w).alloc (Nat.le_refl _) (.cells #[.int .i64 i, .int .u32 s] 32)
  obtain ⟨q0, q1⟩ := new2 w (.int .i64 i) (.int .u32 s) 32
  have kx := k.below bx
  have f1 : IntKind.i64.wrap ((i : Int) + (h : Int)) = ((i + h : Nat) : Int) := by rw [IntKind.wrap_i64]; omega
  go_enter Tryd.func19, Tryd.ntmps19
  go_wp2_with fail
  refine (is_w lo d n m D p h c i _ kx hf).mono ?_
  rintro e w' ⟨rfl, rfl⟩
  rw [hd]
  go_wp2_with fail
  refine (one_not bs lo d n m D p h c i s _ kx (hB.below bx) (by omega) (fun l hl => hbt i l hl) hns).mono ?_
  rintro e w1 ⟨⟨a1, n1, cp1, rfl⟩, hb1⟩
  have k1 := kx.below hb1
  have hB1 := (hB.below bx).below hb1
  replace q0 := kept hb1 q0
  replace q1 := kept hb1 q1
  have hb01 : Below w.heap.size w w1 := bx.trans (hb1.mono (by simp))
  obtain ⟨c0, c1, c2, c3, f3⟩ := k1.c
  clear k kx bx hb1
  go_wp2_with fail
  go_region_held3 (fun w' => w'.cell? ⟨w.heap.size, 0, none⟩ = some (.int .i64 i) ∧ w'.cell? ⟨w.heap.size, 1, none⟩ = some (.int .u32 s) ∧ w'.cell? ⟨p, 2, none⟩ = some (.int .i64 h)) (first | exact ⟨q0, q1, c2⟩ | exact ⟨y0, y1, y2⟩ | go_keep)
    ((go_at_call 81; refine (one_not bs lo d n m D p h c (i + h) s _ (k1.below (below_drewN (Below.refl _ _) 1)) (hB1.below (below_drewN (Below.refl _ _) 1)) (by omega) (fun l hl => hbt _ l hl) hn2).mono ?_; rintro e w2 ⟨⟨a2, n2, cp2, rfl⟩, hb2⟩; have y0 := kept hb2 q0; have y1 := kept hb2 q1; have y2 := kept hb2 c2))
  have k2 := (k1.below (below_drewN (Below.refl _ _) 1)).below hb2
  have hb02 : Below w.heap.size w w2 := (below_drewN hb01 1).trans (hb2.mono hb01.size)
  obtain ⟨aI, haI, hAI⟩ := (hB.below hb02).get 6 _ (by decide) rfl
  have hA1 := hAI.1
  go_wp2
  go_quiet (fail)
  go_wp2
  refine bodyPost_ret (v := .tuple #[.slice none 0 0, ev aI]) (by simp [results, Tryd.results19, go_sem]) rfl ⟨⟨aI, haI, rfl⟩, (k2.below (below_drewN (Below.refl _ _) _)).mono (by omega) (Nat.le_refl _), Turn.of_below (below_drewN hb02 _)⟩
theorem read_w (bs : List Addr) (lo d n : Nat) (m : Mp) (D : Dv) (p h c : Nat) (i s : Nat) (w : World) (k : PAt w lo d n m D p h c) (hB : Ev w lo bs five) (hi : i < h) (hbt : ∀ j l, D.read j = some l → Crc.Bytes l) (hn : n < 90000) (hc : D.calls < 1000000) (hc2 : c < 1000000) :
    Calls Tryd.prog 19 #[ptr p, Rf i s] w (ReadTo bs w lo d n m p h (readP D h c i s)) := by
  by_cases h1 : ∃ l, D.read i = some l ∧ Crc.sum l = s
  · obtain ⟨l, h1, h2⟩ := h1
    rw [readP_first h1 h2]
    exact read_first bs lo d n m D p h c i s w k hB hi hbt h1 h2
  · have hns : ∀ l, D.read i = some l → Crc.sum l ≠ s := fun l hl he => h1 ⟨l, hl, he⟩
    rw [readP_second hns]
    unfold second
    cases hD : D.read (i + h : Nat) with
    | none => exact read_none bs lo d n m D p h c i s w k hB hi hbt hns (fun l hl => by rw [hD] at hl; cases hl)
    | some l =>
      simp only
      by_cases h2 : Crc.sum l = s
      · rw [if_pos h2]
        exact read_second bs lo d n m D p h c i s w k hB hi hbt hns hD h2 hn hc hc2
      · rw [if_neg h2]
        exact read_none bs lo d n m D p h c i s w k hB hi hbt hns (fun l' hl => by rw [hD] at hl; cases hl; exact h2)

/-- whether a copy is right -/
def right (D : Dv) (j : Nat) (s : Nat) : Bool := match D.read j with
  | some l => decide (Crc.sum l = s)
  | none => false
theorem one_any (bs : List Addr) (lo d n : Nat) (m : Mp) (D : Dv) (p h c : Nat) (i s : Nat) (w : World) (k : PAt w lo d n m D p h c) (hB : Ev w lo bs five) (hi : i < D.blocks) (hbt : ∀ j l, D.read j = some l → Crc.Bytes l) :
    Calls Tryd.prog 81 #[ptr p, .int .i64 i, .int .u32 s] w fun e w' => (∃ a n cap, e = .returned (.tuple #[.slice a n cap, .bool (right D i s), .nilIface]) ∧ (right D i s = true → ∃ g l, a = some ⟨g, 0, none⟩ ∧ n = 256 ∧ Nums .u8 w' (some ⟨g, 0, none⟩) 256 cap l ∧ D.read i = some l ∧ w.heap.size ≤ g)) ∧ Below w.heap.size w w' := by
  have ho := one_w bs lo d n m D p h c i s w k hB hi (fun l hl => hbt _ l hl)
  unfold One at ho
  unfold right
  cases hD : D.read i with
  | none =>
    rw [hD] at ho
    refine ho.mono ?_
    rintro e w' ⟨rfl, hb⟩
    exact ⟨⟨_, _, _, rfl, fun h => by cases h⟩, hb⟩
  | some l =>
    rw [hD] at ho
    refine ho.mono ?_
    rintro e w' ⟨⟨g, cap, rfl, hn, hg⟩, hb⟩
    exact ⟨⟨_, _, _, rfl, fun _ => ⟨g, l, rfl, rfl, hn, rfl, hg⟩⟩, hb⟩

end Go.Proofs.YtagbnacffiagcaaDoor.PairG
