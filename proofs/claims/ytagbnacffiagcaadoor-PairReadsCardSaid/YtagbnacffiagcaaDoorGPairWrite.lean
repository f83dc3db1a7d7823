/- A pair written; pairs opened. -/
import Derived.Test.YtagbnacffiagcaaDoorGPairRead
namespace Go.Proofs.YtagbnacffiagcaaDoor.PairG
open Go Go.RowKit Go.Maps Go.Proofs.YtagbnacffiagcaaDoor.Mem Go.Proofs.YtagbnacffiagcaaDoor.MapsW Go.Proofs.YtagbnacffiagcaaDoor.SeeW Go.Proofs.YtagbnacffiagcaaDoor.DevG
set_option linter.unusedVariables false
set_option maxRecDepth 100000

/-- both copies -/
def put2 (D : Dv) (h i : Nat) (l : List Nat) : Dv := (D.put i l).put (i + h : Nat) l
def putK (D : Dv) (h i : Nat) (l : List Nat) : Nat → Dv
  | 0 => D
  | 1 => D.put i l
  | _ => put2 D h i l
theorem putK_blocks (D : Dv) (h i : Nat) (l : List Nat) (k : Nat) : (putK D h i l k).blocks = D.blocks := by
  unfold putK; split <;> rfl
theorem putK_up (D : Dv) (h i : Nat) (l : List Nat) (k : Nat) : (putK D h i l k).down = D.down ∧ (putK D h i l k).fuse = D.fuse := by
  unfold putK; split <;> exact ⟨rfl, rfl⟩
theorem putK_calls (D : Dv) (h i : Nat) (l : List Nat) (k : Nat) : (putK D h i l k).calls ≤ D.calls + 2 := by
  unfold putK; split
  · omega
  · show D.calls + 1 ≤ _; omega
  · show D.calls + 1 + 1 ≤ _; omega

theorem PAt.nou8 {w : World} {lo d n : Nat} {m : Mp} {D : Dv} {p h c : Nat} (k : PAt w lo d n m D p h c) : ∀ x ∈ p :: own d m, ∀ off z, w.cell? ⟨x, off, none⟩ ≠ some (.int .u8 z) := by
  intro x hx off z
  rcases List.mem_cons.1 hx with rfl | hx
  · refine nou8_cells k.cells ?_ off z
    intro v hv z e
    subst e
    simp at hv
  · exact At.nou8 k.dev x hx off z

/-- what writes elsewhere leaves the pairs -/
theorem PAt.elsewhere {S : List Nat} {w w' : World} {lo d n : Nat} {m : Mp} {D : Dv} {p h c : Nat} (k : PAt w lo d n m D p h c) (ht : Turn S w w') (hS : ∀ x ∈ S, x ≠ p ∧ x ≠ d ∧ ∃ v cs t f, w.heap[x]? = some (.cells cs t f) ∧ w.cell? ⟨x, 0, none⟩ = some v ∧ ∀ z, v ≠ .int .u8 z) : PAt w' lo d n m D p h c := by
  have hp : p ∉ S := fun hm => (hS p hm).1 rfl
  refine ⟨k.dev.turn ht (fun hm => (hS d hm).2.1 rfl) (fun x hx hm => ?_) (fun x hx => ?_), ht.cells k.cells hp, k.half, k.most, k.lop, k.up, k.still⟩
  · obtain ⟨_, _, v, cs, t, f, h1, _⟩ := hS x hm
    obtain ⟨es, ck, h2⟩ := k.dev.maps x hx
    rw [h1] at h2
    cases h2
  · obtain ⟨_, _, v, cs, t, f, _, h2, h3⟩ := hS x hx
    exact .inr ⟨v, h2, h3⟩

set_option maxHeartbeats 3200000 in
theorem write_w (lo d n : Nat) (m : Mp) (D : Dv) (p h c : Nat) (i : Nat) (a : Option Addr) (cap : Nat) (l : List Nat) (w : World) (k : PAt w lo d n m D p h c) (hi : i < h) (hl : Nums .u8 w a 256 cap l) (hb : Crc.Bytes l) (hn : n < 90000) (hc : D.calls < 900000) :
    Calls Tryd.prog 12 #[ptr p, .int .i64 i, .slice a 256 cap] w fun e w' => e = .returned (.tuple #[Rf i (Crc.sum l), .nilIface]) ∧ PAt w' lo d (n + 2) m (put2 D h i l) p h c ∧ Turn (own d m) w w' := by
  have hhf := k.half
  have hmo := k.most
  have hf : Fits (i : Int) := fits_nat (by omega)
  have hd : decide (0 ≤ (i : Int) ∧ (i : Int) < h) = true := by rw [decide_eq_true_eq]; omega
  have bx := (Below.refl w.heap.size w).alloc (Nat.le_refl _) (.cells #[.int .i64 0, .int .u32 0] 32)
  have kx := k.below bx
  obtain ⟨c0, c1, c2, c3, f3⟩ := kx.c
  have f1 : IntKind.i64.wrap ((i : Int) + (h : Int)) = ((i + h : Nat) : Int) := by rw [IntKind.wrap_i64]; omega
  go_enter Tryd.func12, Tryd.ntmps12
  go_wp2_with fail
  refine (is_w lo d n m D p h c i _ kx hf).mono ?_
  rintro e w' ⟨rfl, rfl⟩
  rw [hd]
  go_wp2_with fail
  have b1 := kx.below ((Below.refl _ _).alloc (Nat.le_refl _) (.cells #[.int .i64 i, .int .i64 ((i : Int) + (h : Int))] 3))
  have r0 : (w.alloc (.cells #[.int .i64 0, .int .u32 0] 32)).heap[w.heap.size]? = some (.cells #[.int .i64 0, .int .u32 0] 32) := alloc_at rfl _
  have r1 := alloc_old (o := .cells #[.int .i64 i, .int .i64 ((i : Int) + (h : Int))] 3) r0
  have r2 : ((w.alloc (.cells #[.int .i64 0, .int .u32 0] 32)).alloc (.cells #[.int .i64 i, .int .i64 ((i : Int) + (h : Int))] 3)).heap[w.heap.size + 1]? = some (.cells #[.int .i64 i, .int .i64 ((i : Int) + (h : Int))] 3) := alloc_at (by simp) _
  have bb : Below w.heap.size w ((w.alloc (.cells #[.int .i64 0, .int .u32 0] 32)).alloc (.cells #[.int .i64 i, .int .i64 ((i : Int) + (h : Int))] 3)) := bx.alloc (by simp) _
  have hl2 := hl.below bb
  have sz : ((w.alloc (.cells #[.int .i64 0, .int .u32 0] 32)).alloc (.cells #[.int .i64 i, .int .i64 ((i : Int) + (h : Int))] 3)).heap.size = w.heap.size + 2 := by simp
  have hdw := k.dev.dlt
  generalize (w.alloc (.cells #[.int .i64 0, .int .u32 0] 32)).alloc (.cells #[.int .i64 i, .int .i64 ((i : Int) + (h : Int))] 3) = wS at *
  clear kx bx c0 c1 c2 c3 f3 r0 hl
  go_loopw [27] (fun jv wr => ∃ j : Nat, j ≤ 2 ∧ jv = .int .i64 j ∧ PAt wr lo d (n + j) m (putK D h i l j) p h c ∧ Turn (own d m) wS wr ∧ Nums .u8 wr a 256 cap l ∧ wr.heap[w.heap.size]? = some (.cells #[.int .i64 0, .int .u32 0] 32) ∧ wr.heap[w.heap.size + 1]? = some (.cells #[.int .i64 i, .int .i64 ((i : Int) + (h : Int))] 3)) (fun jv _ => 2 - (intOf jv).toNat)
  case atStart => exact ⟨0, by omega, rfl, b1, Turn.refl _ _, hl2, r1, r2⟩
  case round =>
    clear b1 r1 r2 hl2
    obtain ⟨j, hj, rfl, kr, tr, hl, r1, r2⟩ := hrel
    obtain ⟨c0, c1, c2, c3, f3⟩ := kr.c
    rw [putK_blocks] at c1
    by_cases hlt : j < 2
    · have hcell : ∃ q : Nat, wr.cell? ⟨w.heap.size + 1, j, none⟩ = some (.int .i64 (q : Int)) ∧ q < D.blocks ∧ (putK D h i l j).put q l = putK D h i l (j + 1) := by
        rcases (by omega : j = 0 ∨ j = 1) with rfl | rfl
        · exact ⟨i, by simp [World.cell?, r2], by omega, rfl⟩
        · exact ⟨i + h, by simp [World.cell?, r2], by omega, rfl⟩
      obtain ⟨q, hq, hqb, hqe⟩ := hcell
      go_wp2_with fail
      refine (write_q d lo (n + j) m _ q a cap l _ kr.dev (by rw [putK_blocks]; exact hqb) (by rw [putK_blocks]; exact hmo) hl (by omega) (by have := putK_calls D h i l j; omega) ((putK_up D h i l j).1.trans k.up) ((putK_up D h i l j).2.trans k.still)).mono ?_
      rintro e w3 ⟨rfl, h3, t3⟩
      rw [hqe] at h3
      have k3 := kr.turn h3 t3 (by rw [putK_blocks, putK_blocks]) ((putK_up D h i l (j + 1)).1.trans k.up) ((putK_up D h i l (j + 1)).2.trans k.still)
      have hl3 := nums_turn hl t3 (At.nou8 kr.dev)
      have s1 := t3.cells r1 (kr.dev.out r1 (by omega))
      have s2 := t3.cells r2 (kr.dev.out r2 (by omega))
      clear c0 c1 c2 c3 f3
      go_wp2_with fail
      go_roundw
      case rel => exact ⟨j + 1, by omega, by go_num, k3, tr.then t3, hl3, s1, s2⟩
      case measure => simp [intOf]; omega
    · obtain rfl : j = 2 := by omega
      go_wp2_with fail
      refine (CrcW.sum_w a 256 cap l _ hl hb).mono ?_
      rintro e w3 ⟨rfl, rfl⟩
      have hx1 : wr.cell? ⟨w.heap.size, 0, none⟩ = some (.int .i64 0) ∧ wr.cell? ⟨w.heap.size, 1, none⟩ = some (.int .u32 0) ∧ wr.frozen? ⟨w.heap.size, 0, none⟩ = false ∧ wr.frozen? ⟨w.heap.size, 1, none⟩ = false := by
        simp [World.cell?, World.frozen?, r1]
      obtain ⟨x1, x2, x3, x4⟩ := hx1
      have hpw : p < w.heap.size := (Array.getElem?_eq_some_iff.1 k.cells).1
      have hfin : ∀ (u v : Value), Turn [w.heap.size] wr ((wr.setCell ⟨w.heap.size, 0, none⟩ u).setCell ⟨w.heap.size, 1, none⟩ v) := fun u v =>
        (Turn.setCell wr _ _ _ (by simp)).then (Turn.setCell _ _ _ _ (by simp))
      have hk := fun u v => kr.elsewhere (hfin u v) (fun x hx => by
        rw [List.mem_singleton.1 hx]
        exact ⟨by omega, by omega, _, _, _, _, r1, x1, fun z e => by cases e⟩)
      have hT : ∀ u v, Turn (own d m) w ((wr.setCell ⟨w.heap.size, 0, none⟩ u).setCell ⟨w.heap.size, 1, none⟩ v) := fun u v =>
        ((Turn.of_below bb).then tr).trans (hfin u v) (fun x hx => by rw [List.mem_singleton.1 hx]; exact .inr (Nat.le_refl _))
      generalize hs : Crc.sum l = s at *
      have HS := hid hs
      have HK := hid hk
      have HT := hid hT
      clear hk hT kr tr hfin c0 c1 c2 c3 f3 r1 r2 hs
      go_wp2
      refine bodyPost_ret (v := .tuple #[Rf i s, .nilIface]) (by simp [results, Tryd.results12, go_sem, x1, x2]) rfl ⟨by rw [HS.out], HK.out _ _, HT.out _ _⟩
end Go.Proofs.YtagbnacffiagcaaDoor.PairG
