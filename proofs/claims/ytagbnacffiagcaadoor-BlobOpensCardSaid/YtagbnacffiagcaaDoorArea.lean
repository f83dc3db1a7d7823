/- Data blocks kept once (package blob): what an area is. -/
import Derived.Test.YtagbnacffiagcaaDoorNMaps
import Derived.Test.YtagbnacffiagcaaDoorGDevFlush
import Derived.Test.YtagbnacffiagcaaDoorGDevNew
import Derived.Test.YtagbnacffiagcaaDoorGeoOf
import Derived.Test.YtagbnacffiagcaaDoorBits
namespace Go.Proofs.YtagbnacffiagcaaDoor.BlobW
open Go Go.RowKit Go.Maps Go.Proofs.YtagbnacffiagcaaDoor.Mem Go.Proofs.YtagbnacffiagcaaDoor.MapsW Go.Proofs.YtagbnacffiagcaaDoor.SeeW Go.Proofs.YtagbnacffiagcaaDoor.DevG
set_option linter.unusedVariables false
set_option maxRecDepth 100000

/-- what an area holds: which blocks are in use, which are held, how many, the one that was put last -/
structure Ar where
  used : Int → Bool
  held : Int → Bool
  nu : Nat
  nh : Nat
  last : Nat
abbrev acells (d b h u k l : Nat) : Array Value := #[ptr d, .int .i64 b, .int .i64 h, .map (some u), .map (some k), .int .i64 l]
/-- block a of w is an area on the device d; its maps are u and k -/
structure AAt (w : World) (lo d n : Nat) (m : Mp) (D : Dv) (a u k : Nat) (A : Ar) : Prop where
  dev : At w lo d n m D
  cells : w.heap[a]? = some (.cells (acells d D.blocks (GeoW.half D.blocks) u k A.last) 148)
  mu : NumMap w u n A.used A.nu
  mh : NumMap w k n A.held A.nh
  ne : u ≠ k
  outu : u ∉ own d m
  outk : k ∉ own d m
  loa : lo ≤ a
  lou : lo ≤ u
  lok : lo ≤ k
  b1 : 300 ≤ D.blocks
  b2 : D.blocks ≤ 6000
abbrev aown (d : Nat) (m : Mp) (a u k : Nat) : List Nat := a :: u :: k :: own d m
section
variable {w : World} {lo d n : Nat} {m : Mp} {D : Dv} {a u k : Nat} {A : Ar}
theorem AAt.c (h : AAt w lo d n m D a u k A) :
    w.cell? ⟨a, 0, none⟩ = some (ptr d) ∧ w.cell? ⟨a, 1, none⟩ = some (.int .i64 D.blocks) ∧ w.cell? ⟨a, 2, none⟩ = some (.int .i64 (GeoW.half D.blocks)) ∧ w.cell? ⟨a, 3, none⟩ = some (.map (some u)) ∧ w.cell? ⟨a, 4, none⟩ = some (.map (some k)) ∧ w.cell? ⟨a, 5, none⟩ = some (.int .i64 A.last) ∧ w.frozen? ⟨a, 4, none⟩ = false ∧ w.frozen? ⟨a, 5, none⟩ = false := by
  have := h.cells
  simp [World.cell?, World.frozen?, this]
theorem AAt.nea (h : AAt w lo d n m D a u k A) : a ≠ d := by
  rintro rfl
  have h1 := h.cells
  rw [h.dev.cells] at h1
  have h2 := (Obj.cells.inj (Option.some.inj h1)).1
  have h3 := congrArg (·[0]?) h2
  simp at h3
theorem AAt.outa (h : AAt w lo d n m D a u k A) : a ∉ own d m := h.dev.out h.cells h.nea
theorem AAt.neu (h : AAt w lo d n m D a u k A) : a ≠ u := by
  rintro rfl
  obtain ⟨es, ck, hb⟩ := h.mu.block
  rw [h.cells] at hb; cases hb
theorem AAt.nek (h : AAt w lo d n m D a u k A) : a ≠ k := by
  rintro rfl
  obtain ⟨es, ck, hb⟩ := h.mh.block
  rw [h.cells] at hb; cases hb
theorem AAt.alt (h : AAt w lo d n m D a u k A) : a < w.heap.size := (Array.getElem?_eq_some_iff.1 h.cells).1
theorem AAt.ult (h : AAt w lo d n m D a u k A) : u < w.heap.size := by
  obtain ⟨es, ck, hb⟩ := h.mu.block
  exact (Array.getElem?_eq_some_iff.1 hb).1
theorem AAt.klt (h : AAt w lo d n m D a u k A) : k < w.heap.size := by
  obtain ⟨es, ck, hb⟩ := h.mh.block
  exact (Array.getElem?_eq_some_iff.1 hb).1
theorem AAt.own_lo (h : AAt w lo d n m D a u k A) : ∀ x ∈ aown d m a u k, lo ≤ x := by
  intro x hx
  rcases List.mem_cons.1 hx with rfl | hx
  · exact h.loa
  rcases List.mem_cons.1 hx with rfl | hx
  · exact h.lou
  rcases List.mem_cons.1 hx with rfl | hx
  · exact h.lok
  · exact h.dev.own_lo x hx
theorem AAt.old (h : AAt w lo d n m D a u k A) : ∀ x ∈ aown d m a u k, x < w.heap.size := by
  intro x hx
  rcases List.mem_cons.1 hx with rfl | hx
  · exact h.alt
  rcases List.mem_cons.1 hx with rfl | hx
  · exact h.ult
  rcases List.mem_cons.1 hx with rfl | hx
  · exact h.klt
  · rcases List.mem_cons.1 hx with rfl | hx
    · exact h.dev.dlt
    · obtain ⟨es, ck, hb⟩ := h.dev.maps x hx
      exact (Array.getElem?_eq_some_iff.1 hb).1
theorem own_sub {x : Nat} (hx : x ∈ own d m) : x ∈ aown d m a u k := List.mem_cons_of_mem _ (List.mem_cons_of_mem _ (List.mem_cons_of_mem _ hx))
/-- what the device does leaves the area -/
theorem AAt.turn {w' : World} {n' : Nat} {m' : Mp} {D' : Dv} (h : AAt w lo d n m D a u k A) (hd : At w' lo d n' m' D') (ht : Turn (own d m) w w') (hb : D'.blocks = D.blocks) (hn : n ≤ n') (hm : ∀ x ∈ own d m', x ∈ own d m ∨ w.heap.size ≤ x) : AAt w' lo d n' m' D' a u k A := by
  have hu : w'.heap[u]? = w.heap[u]? := ht.block u h.ult h.outu
  have hk : w'.heap[k]? = w.heap[k]? := ht.block k h.klt h.outk
  refine ⟨hd, by rw [hb]; exact ht.cells h.cells h.outa, (h.mu.still hu).mono hn, (h.mh.still hk).mono hn, h.ne, fun hx => ?_, fun hx => ?_, h.loa, h.lou, h.lok, by rw [hb]; exact h.b1, by rw [hb]; exact h.b2⟩
  · rcases hm _ hx with e | e
    · exact h.outu e
    · have := h.ult; omega
  · rcases hm _ hx with e | e
    · exact h.outk e
    · have := h.klt; omega
theorem AAt.turn' {w' : World} {n' : Nat} {D' : Dv} (h : AAt w lo d n m D a u k A) (hd : At w' lo d n' m D') (ht : Turn (own d m) w w') (hb : D'.blocks = D.blocks) (hn : n ≤ n') : AAt w' lo d n' m D' a u k A := h.turn hd ht hb hn fun x hx => .inl hx
theorem AAt.below {w' : World} (h : AAt w lo d n m D a u k A) (hb : Below w.heap.size w w') : AAt w' lo d n m D a u k A := h.turn' (h.dev.below hb) (Turn.of_below hb) rfl (Nat.le_refl _)
theorem AAt.mono {n' : Nat} (h : AAt w lo d n m D a u k A) (hn : n ≤ n') : AAt w lo d n' m D a u k A := h.turn' (h.dev.mono hn (Nat.le_refl _)) (Turn.refl _ _) rfl hn
theorem AAt.notmem (h : AAt w lo d n m D a u k A) {x : Nat} (hx : x ∉ own d m) : d ∉ [x] ∧ ∀ y ∈ m.list, y ∉ [x] := by
  refine ⟨fun e => hx ?_, fun y hy e => hx ?_⟩
  · rw [← List.mem_singleton.1 e]; exact (mem_own d m).1
  · rw [← List.mem_singleton.1 e]; exact List.mem_cons_of_mem _ hy
/-- the blocks in use change -/
theorem AAt.setU {w' : World} {n' c : Nat} {F : Int → Bool} (h : AAt w lo d n m D a u k A) (hg : w.grownBy w' (some u)) (hr : NumMap w' u n' F c) (hn : n ≤ n') : AAt w' lo d n' m D a u k { A with used := F, nu := c } ∧ Turn [u] w w' := by
  have ht : Turn [u] w w' := Turn.of_grown hg (by simp)
  have hx := h.notmem h.outu
  refine ⟨⟨(h.dev.turn ht hx.1 hx.2 fun x hx => ?_).mono hn (Nat.le_refl _), ht.cells h.cells (by simpa using h.neu), hr, (h.mh.still (ht.block k h.klt (by simpa using fun e => h.ne e.symm))).mono hn, h.ne, h.outu, h.outk, h.loa, h.lou, h.lok, h.b1, h.b2⟩, ht⟩
  rw [List.mem_singleton.1 hx]
  exact .inl (nocells h.mu.block)
/-- the blocks that are held change -/
theorem AAt.setK {w' : World} {n' c : Nat} {F : Int → Bool} (h : AAt w lo d n m D a u k A) (hg : w.grownBy w' (some k)) (hr : NumMap w' k n' F c) (hn : n ≤ n') : AAt w' lo d n' m D a u k { A with held := F, nh := c } ∧ Turn [k] w w' := by
  have ht : Turn [k] w w' := Turn.of_grown hg (by simp)
  have hx := h.notmem h.outk
  refine ⟨⟨(h.dev.turn ht hx.1 hx.2 fun x hx => ?_).mono hn (Nat.le_refl _), ht.cells h.cells (by simpa using h.nek), (h.mu.still (ht.block u h.ult (by simpa using h.ne))).mono hn, hr, h.ne, h.outu, h.outk, h.loa, h.lou, h.lok, h.b1, h.b2⟩, ht⟩
  rw [List.mem_singleton.1 hx]
  exact .inl (nocells h.mh.block)
/-- the one that was put last -/
theorem AAt.setL (h : AAt w lo d n m D a u k A) (l : Nat) : AAt (w.setCell ⟨a, 5, none⟩ (.int .i64 l)) lo d n m D a u k { A with last := l } ∧ Turn [a] w (w.setCell ⟨a, 5, none⟩ (.int .i64 l)) := by
  have ht : Turn [a] w (w.setCell ⟨a, 5, none⟩ (.int .i64 l)) := Turn.setCell w a 5 _ (by simp)
  have hx := h.notmem h.outa
  refine ⟨⟨h.dev.turn ht hx.1 hx.2 fun x hx => ?_, ?_, h.mu.still (ht.block u h.ult (by simpa using fun e => h.neu e.symm)), h.mh.still (ht.block k h.klt (by simpa using fun e => h.nek e.symm)), h.ne, h.outu, h.outk, h.loa, h.lou, h.lok, h.b1, h.b2⟩, ht⟩
  · rw [List.mem_singleton.1 hx]
    exact .inr ⟨_, h.c.1, fun z e => by cases e⟩
  · have := h.cells
    simp [World.setCell, Array.getElem?_modify, this]
/-- a new map of those that are held -/
theorem AAt.setM (h : AAt w lo d n m D a u k A) : AAt ((w.alloc (.map #[] 0)).setCell ⟨a, 4, none⟩ (.map (some w.heap.size))) lo d n m D a u w.heap.size { A with held := fun _ => false, nh := 0 } ∧ Turn [a] w ((w.alloc (.map #[] 0)).setCell ⟨a, 4, none⟩ (.map (some w.heap.size))) := by
  have hb := (Below.refl w.heap.size w).alloc (Nat.le_refl _) (.map #[] 0)
  have h1 := h.below hb
  have hm := NumMap.made w
  have ht : Turn [a] (w.alloc (.map #[] 0)) ((w.alloc (.map #[] 0)).setCell ⟨a, 4, none⟩ (.map (some w.heap.size))) := Turn.setCell _ a 4 _ (by simp)
  have hx := h1.notmem h1.outa
  have hal := h.alt
  have hul := h.ult
  refine ⟨⟨h1.dev.turn ht hx.1 hx.2 fun x hx => ?_, ?_, h1.mu.still (ht.block u h1.ult (by simpa using fun e => h.neu e.symm)), (hm.still (ht.block _ (by simp) (by simp; omega))).mono (Nat.zero_le _), by omega, h.outu, fun hx => ?_, h.loa, h.lou, Nat.le_trans h.loa (Nat.le_of_lt hal), h.b1, h.b2⟩, (Turn.of_below hb).then ht⟩
  · rw [List.mem_singleton.1 hx]
    exact .inr ⟨_, h1.c.1, fun z e => by cases e⟩
  · have := h1.cells
    simp [World.setCell, Array.getElem?_modify, this]
  · have := h.old _ (own_sub hx)
    omega
theorem AAt.nou8 (h : AAt w lo d n m D a u k A) : ∀ x ∈ aown d m a u k, ∀ off z, w.cell? ⟨x, off, none⟩ ≠ some (.int .u8 z) := by
  intro x hx off z
  rcases List.mem_cons.1 hx with rfl | hx
  · refine nou8_cells h.cells ?_ off z
    intro v hv z e
    subst e
    simp at hv
  rcases List.mem_cons.1 hx with rfl | hx
  · obtain ⟨es, ck, hb⟩ := h.mu.block
    intro e
    simp [World.cell?, hb] at e
  rcases List.mem_cons.1 hx with rfl | hx
  · obtain ⟨es, ck, hb⟩ := h.mh.block
    intro e
    simp [World.cell?, hb] at e
  · exact h.dev.nou8 x hx off z
end

/-- how many data blocks there are -/
def datas (b : Nat) : Nat := b - 2 * GeoW.half b
theorem datas_pos {b : Nat} (h1 : 300 ≤ b) : 0 < datas b ∧ datas b ≤ b ∧ 2 * GeoW.half b + datas b = b := by
  have := GeoW.half_le b
  have h : GeoW.half b ≤ b / 4 := by unfold GeoW.half; omega
  unfold datas
  omega
theorem datas_w (b : Nat) (w : World) (h2 : b ≤ 6000) :
    Calls Tryd.prog 104 #[GeoW.G b (GeoW.half b)] w fun e w' => e = .returned (.int .i64 (datas b : Nat)) ∧ Below w.heap.size w w' := by
  have hh := GeoW.half_le b
  have e : (b : Int) - 2 * (GeoW.half b : Int) = ((datas b : Nat) : Int) := by unfold datas; omega
  have HE := hid e
  generalize datas b = q at *
  generalize GeoW.half b = x at *
  obtain ⟨x0, x1⟩ := new2 w (.int .i64 b) (.int .i64 x) 116
  go_enter Tryd.func104, Tryd.ntmps104
  go_wp2
  go_ret
  exact ⟨rfl, (Below.refl _ _).alloc (Nat.le_refl _) _⟩
theorem data_w (b : Nat) (i : Int) (w : World) (h2 : b ≤ 6000) (hi : Fits i) :
    Calls Tryd.prog 103 #[GeoW.G b (GeoW.half b), .int .i64 i] w fun e w' => e = .returned (.bool (decide (2 * (GeoW.half b : Int) ≤ i ∧ i < b))) ∧ Below w.heap.size w w' := by
  obtain ⟨x, hx⟩ : ∃ x, x = GeoW.half b := ⟨_, rfl⟩
  have hx1 : x ≤ 6000 := by have := GeoW.half_le b; omega
  rw [← hx]
  obtain ⟨x0, x1⟩ := new2 w (.int .i64 b) (.int .i64 x) 116
  by_cases h0 : 0 ≤ i
  · have d0 : decide (0 ≤ i) = true := decide_eq_true h0
    by_cases h1 : i < b
    · have d1 : decide (i < (b : Int)) = true := decide_eq_true h1
      by_cases h3 : (x : Int) ≤ i / 2
      · have d3 : decide ((x : Int) ≤ i.tdiv 2) = true := by rw [decide_eq_true_eq, Int.tdiv_eq_ediv_of_nonneg h0]; exact h3
        go_enter Tryd.func103, Tryd.ntmps103
        go_wp2
        go_ret
        exact ⟨ret_bool (by first | rfl | (rw [Bool.eq_iff_iff]; simp; omega)), (Below.refl _ _).alloc (Nat.le_refl _) _⟩
      · have d3 : decide ((x : Int) ≤ i.tdiv 2) = false := by rw [decide_eq_false_iff_not, Int.tdiv_eq_ediv_of_nonneg h0]; exact h3
        go_enter Tryd.func103, Tryd.ntmps103
        go_wp2
        go_ret
        exact ⟨ret_bool (by first | rfl | (rw [Bool.eq_iff_iff]; simp; omega)), (Below.refl _ _).alloc (Nat.le_refl _) _⟩
    · have d1 : decide (i < (b : Int)) = false := decide_eq_false h1
      go_enter Tryd.func103, Tryd.ntmps103
      go_wp2
      go_ret
      exact ⟨ret_bool (by first | rfl | (rw [Bool.eq_iff_iff]; simp; omega)), (Below.refl _ _).alloc (Nat.le_refl _) _⟩
  · have d0 : decide (0 ≤ i) = false := decide_eq_false h0
    go_enter Tryd.func103, Tryd.ntmps103
    go_wp2
    go_ret
    exact ⟨ret_bool (by first | rfl | (rw [Bool.eq_iff_iff]; simp; omega)), (Below.refl _ _).alloc (Nat.le_refl _) _⟩
def Ar.free (A : Ar) (i : Int) : Bool := !A.used i && !A.held i
theorem free_w (lo d n : Nat) (m : Mp) (D : Dv) (a u k : Nat) (A : Ar) (i : Int) (w : World) (h : AAt w lo d n m D a u k A) (hi : Fits i) :
    Calls Tryd.prog 107 #[ptr a, .int .i64 i] w fun e w' => e = .returned (.bool (A.free i)) ∧ w = w' := by
  obtain ⟨c0, c1, c2, c3, c4, c5, f4, f5⟩ := h.c
  unfold Ar.free
  cases hU : A.used i
  · have lu := h.mu.look0 hi hU
    cases hK : A.held i
    · have lk := h.mh.look0 hi hK
      clear h
      go_enter Tryd.func107, Tryd.ntmps107
      go_wp2
      go_ret
      exact ⟨rfl, rfl⟩
    · have lk := h.mh.look1 hi hK
      clear h
      go_enter Tryd.func107, Tryd.ntmps107
      go_wp2
      go_ret
      exact ⟨rfl, rfl⟩
  · have lu := h.mu.look1 hi hU
    clear h
    go_enter Tryd.func107, Tryd.ntmps107
    go_wp2
    go_ret
    exact ⟨rfl, rfl⟩
end Go.Proofs.YtagbnacffiagcaaDoor.BlobW
