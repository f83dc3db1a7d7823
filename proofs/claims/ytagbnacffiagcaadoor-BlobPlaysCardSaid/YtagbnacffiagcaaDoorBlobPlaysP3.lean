/- Data blocks kept once (package blob): what an area is; Plain facts about the sum: bytes turned, four in a row or fewer, are told. No program stands here; Plain facts: bytes turned are others, and so is their sum; a block of some bytes; A block's bytes, filled up; what is copied; The walk of blob's lay; The walk of blob's Put; The walks of blob's Drop, Done, Left; The keys of a map of rows, rising: slices.Sorted of maps.Keys; The keys of a map of ints, rising: slices.Sorted of maps.Keys; A slice of integers; The walks of blob's Used, and of Low where nothing is low enough; The walks of blob's Low, wherever it ends, and of Put and Low of too many bytes; A row of places beside an area; The walk of blob's Put where nothing is free; of more bytes than a block has. -/
import Derived.Test.YtagbnacffiagcaaDoorBlobPlaysP1
import Derived.Test.YtagbnacffiagcaaDoorBlobPlaysP2
import Derived.Laws.CopyOwn
import Derived.Deep.CutRange
import Derived.StillTailTactics
import Derived.Test.YtagbnacffiagcaaDoorShelf
import Derived.Test.YtagbnacffiagcaaDoorShelfN
import Derived.Test.YtagbnacffiagcaaDoorProg
namespace Go.Proofs.YtagbnacffiagcaaDoor.BlobW
open Go Go.RowKit Go.Maps Go.Proofs.YtagbnacffiagcaaDoor.Mem Go.Proofs.YtagbnacffiagcaaDoor.MapsW Go.Proofs.YtagbnacffiagcaaDoor.SeeW Go.Proofs.YtagbnacffiagcaaDoor.DevG
set_option linter.unusedVariables false
set_option maxRecDepth 100000

/-- what an area holds: which blocks are in use, which are held, how many, the one that was put last -/
structure Ar where
  used : Int → Bool
  held : Int → Bool
  nu : Nat
  nh : Nat
  last : Nat
abbrev acells (d b h u k l : Nat) : Array Value := #[ptr d, .int .i64 b, .int .i64 h, .map (some u), .map (some k), .int .i64 l]
/-- block a of w is an area on the device d; its maps are u and k -/
structure AAt (w : World) (lo d n : Nat) (m : Mp) (D : Dv) (a u k : Nat) (A : Ar) : Prop where
  dev : At w lo d n m D
  cells : w.heap[a]? = some (.cells (acells d D.blocks (GeoW.half D.blocks) u k A.last) 148)
  mu : NumMap w u n A.used A.nu
  mh : NumMap w k n A.held A.nh
  ne : u ≠ k
  outu : u ∉ own d m
  outk : k ∉ own d m
  loa : lo ≤ a
  lou : lo ≤ u
  lok : lo ≤ k
  b1 : 300 ≤ D.blocks
  b2 : D.blocks ≤ 6000
abbrev aown (d : Nat) (m : Mp) (a u k : Nat) : List Nat := a :: u :: k :: own d m
section
variable {w : World} {lo d n : Nat} {m : Mp} {D : Dv} {a u k : Nat} {A : Ar}
theorem AAt.c (h : AAt w lo d n m D a u k A) :
    w.cell? ⟨a, 0, none⟩ = some (ptr d) ∧ w.cell? ⟨a, 1, none⟩ = some (.int .i64 D.blocks) ∧ w.cell? ⟨a, 2, none⟩ = some (.int .i64 (GeoW.half D.blocks)) ∧ w.cell? ⟨a, 3, none⟩ = some (.map (some u)) ∧ w.cell? ⟨a, 4, none⟩ = some (.map (some k)) ∧ w.cell? ⟨a, 5, none⟩ = some (.int .i64 A.last) ∧ w.frozen? ⟨a, 4, none⟩ = false ∧ w.frozen? ⟨a, 5, none⟩ = false := by
  have := h.cells
  simp [World.cell?, World.frozen?, this]
theorem AAt.nea (h : AAt w lo d n m D a u k A) : a ≠ d := by
  rintro rfl
  have h1 := h.cells
  rw [h.dev.cells] at h1
  have h2 := (Obj.cells.inj (Option.some.inj h1)).1
  have h3 := congrArg (·[0]?) h2
  simp at h3
theorem AAt.outa (h : AAt w lo d n m D a u k A) : a ∉ own d m := h.dev.out h.cells h.nea
theorem AAt.neu (h : AAt w lo d n m D a u k A) : a ≠ u := by
  rintro rfl
  obtain ⟨es, ck, hb⟩ := h.mu.block
  rw [h.cells] at hb; cases hb
theorem AAt.nek (h : AAt w lo d n m D a u k A) : a ≠ k := by
  rintro rfl
  obtain ⟨es, ck, hb⟩ := h.mh.block
  rw [h.cells] at hb; cases hb
theorem AAt.alt (h : AAt w lo d n m D a u k A) : a < w.heap.size := (Array.getElem?_eq_some_iff.1 h.cells).1
theorem AAt.ult (h : AAt w lo d n m D a u k A) : u < w.heap.size := by
  obtain ⟨es, ck, hb⟩ := h.mu.block
  exact (Array.getElem?_eq_some_iff.1 hb).1
theorem AAt.klt (h : AAt w lo d n m D a u k A) : k < w.heap.size := by
  obtain ⟨es, ck, hb⟩ := h.mh.block
  exact (Array.getElem?_eq_some_iff.1 hb).1
theorem AAt.own_lo (h : AAt w lo d n m D a u k A) : ∀ x ∈ aown d m a u k, lo ≤ x := by
  intro x hx
  rcases List.mem_cons.1 hx with rfl | hx
  · exact h.loa
  rcases List.mem_cons.1 hx with rfl | hx
  · exact h.lou
  rcases List.mem_cons.1 hx with rfl | hx
  · exact h.lok
  · exact h.dev.own_lo x hx
theorem AAt.old (h : AAt w lo d n m D a u k A) : ∀ x ∈ aown d m a u k, x < w.heap.size := by
  intro x hx
  rcases List.mem_cons.1 hx with rfl | hx
  · exact h.alt
  rcases List.mem_cons.1 hx with rfl | hx
  · exact h.ult
  rcases List.mem_cons.1 hx with rfl | hx
  · exact h.klt
  · rcases List.mem_cons.1 hx with rfl | hx
    · exact h.dev.dlt
    · obtain ⟨es, ck, hb⟩ := h.dev.maps x hx
      exact (Array.getElem?_eq_some_iff.1 hb).1
theorem own_sub {x : Nat} (hx : x ∈ own d m) : x ∈ aown d m a u k := List.mem_cons_of_mem _ (List.mem_cons_of_mem _ (List.mem_cons_of_mem _ hx))
/-- what the device does leaves the area -/
theorem AAt.turn {w' : World} {n' : Nat} {m' : Mp} {D' : Dv} (h : AAt w lo d n m D a u k A) (hd : At w' lo d n' m' D') (ht : Turn (own d m) w w') (hb : D'.blocks = D.blocks) (hn : n ≤ n') (hm : ∀ x ∈ own d m', x ∈ own d m ∨ w.heap.size ≤ x) : AAt w' lo d n' m' D' a u k A := by
  have hu : w'.heap[u]? = w.heap[u]? := ht.block u h.ult h.outu
  have hk : w'.heap[k]? = w.heap[k]? := ht.block k h.klt h.outk
  refine ⟨hd, by rw [hb]; exact ht.cells h.cells h.outa, (h.mu.still hu).mono hn, (h.mh.still hk).mono hn, h.ne, fun hx => ?_, fun hx => ?_, h.loa, h.lou, h.lok, by rw [hb]; exact h.b1, by rw [hb]; exact h.b2⟩
  · rcases hm _ hx with e | e
    · exact h.outu e
    · have := h.ult; omega
  · rcases hm _ hx with e | e
    · exact h.outk e
    · have := h.klt; omega
theorem AAt.turn' {w' : World} {n' : Nat} {D' : Dv} (h : AAt w lo d n m D a u k A) (hd : At w' lo d n' m D') (ht : Turn (own d m) w w') (hb : D'.blocks = D.blocks) (hn : n ≤ n') : AAt w' lo d n' m D' a u k A := h.turn hd ht hb hn fun x hx => .inl hx
theorem AAt.below {w' : World} (h : AAt w lo d n m D a u k A) (hb : Below w.heap.size w w') : AAt w' lo d n m D a u k A := h.turn' (h.dev.below hb) (Turn.of_below hb) rfl (Nat.le_refl _)
theorem AAt.mono {n' : Nat} (h : AAt w lo d n m D a u k A) (hn : n ≤ n') : AAt w lo d n' m D a u k A := h.turn' (h.dev.mono hn (Nat.le_refl _)) (Turn.refl _ _) rfl hn
theorem AAt.notmem (h : AAt w lo d n m D a u k A) {x : Nat} (hx : x ∉ own d m) : d ∉ [x] ∧ ∀ y ∈ m.list, y ∉ [x] := by
  refine ⟨fun e => hx ?_, fun y hy e => hx ?_⟩
  · rw [← List.mem_singleton.1 e]; exact (mem_own d m).1
  · rw [← List.mem_singleton.1 e]; exact List.mem_cons_of_mem _ hy
/-- the blocks in use change -/
theorem AAt.setU {w' : World} {n' c : Nat} {F : Int → Bool} (h : AAt w lo d n m D a u k A) (hg : w.grownBy w' (some u)) (hr : NumMap w' u n' F c) (hn : n ≤ n') : AAt w' lo d n' m D a u k { A with used := F, nu := c } ∧ Turn [u] w w' := by
  have ht : Turn [u] w w' := Turn.of_grown hg (by simp)
  have hx := h.notmem h.outu
  refine ⟨⟨(h.dev.turn ht hx.1 hx.2 fun x hx => ?_).mono hn (Nat.le_refl _), ht.cells h.cells (by simpa using h.neu), hr, (h.mh.still (ht.block k h.klt (by simpa using fun e => h.ne e.symm))).mono hn, h.ne, h.outu, h.outk, h.loa, h.lou, h.lok, h.b1, h.b2⟩, ht⟩
  rw [List.mem_singleton.1 hx]
  exact .inl (nocells h.mu.block)
/-- the blocks that are held change -/
theorem AAt.setK {w' : World} {n' c : Nat} {F : Int → Bool} (h : AAt w lo d n m D a u k A) (hg : w.grownBy w' (some k)) (hr : NumMap w' k n' F c) (hn : n ≤ n') : AAt w' lo d n' m D a u k { A with held := F, nh := c } ∧ Turn [k] w w' := by
  have ht : Turn [k] w w' := Turn.of_grown hg (by simp)
  have hx := h.notmem h.outk
  refine ⟨⟨(h.dev.turn ht hx.1 hx.2 fun x hx => ?_).mono hn (Nat.le_refl _), ht.cells h.cells (by simpa using h.nek), (h.mu.still (ht.block u h.ult (by simpa using h.ne))).mono hn, hr, h.ne, h.outu, h.outk, h.loa, h.lou, h.lok, h.b1, h.b2⟩, ht⟩
  rw [List.mem_singleton.1 hx]
  exact .inl (nocells h.mh.block)
/-- the one that was put last -/
theorem AAt.setL (h : AAt w lo d n m D a u k A) (l : Nat) : AAt (w.setCell ⟨a, 5, none⟩ (.int .i64 l)) lo d n m D a u k { A with last := l } ∧ Turn [a] w (w.setCell ⟨a, 5, none⟩ (.int .i64 l)) := by
  have ht : Turn [a] w (w.setCell ⟨a, 5, none⟩ (.int .i64 l)) := Turn.setCell w a 5 _ (by simp)
  have hx := h.notmem h.outa
  refine ⟨⟨h.dev.turn ht hx.1 hx.2 fun x hx => ?_, ?_, h.mu.still (ht.block u h.ult (by simpa using fun e => h.neu e.symm)), h.mh.still (ht.block k h.klt (by simpa using fun e => h.nek e.symm)), h.ne, h.outu, h.outk, h.loa, h.lou, h.lok, h.b1, h.b2⟩, ht⟩
  · rw [List.mem_singleton.1 hx]
    exact .inr ⟨_, h.c.1, fun z e => by cases e⟩
  · have := h.cells
    simp [World.setCell, Array.getElem?_modify, this]
/-- a new map of those that are held -/
theorem AAt.setM (h : AAt w lo d n m D a u k A) : AAt ((w.alloc (.map #[] 0)).setCell ⟨a, 4, none⟩ (.map (some w.heap.size))) lo d n m D a u w.heap.size { A with held := fun _ => false, nh := 0 } ∧ Turn [a] w ((w.alloc (.map #[] 0)).setCell ⟨a, 4, none⟩ (.map (some w.heap.size))) := by
  have hb := (Below.refl w.heap.size w).alloc (Nat.le_refl _) (.map #[] 0)
  have h1 := h.below hb
  have hm := NumMap.made w
  have ht : Turn [a] (w.alloc (.map #[] 0)) ((w.alloc (.map #[] 0)).setCell ⟨a, 4, none⟩ (.map (some w.heap.size))) := Turn.setCell _ a 4 _ (by simp)
  have hx := h1.notmem h1.outa
  have hal := h.alt
  have hul := h.ult
  refine ⟨⟨h1.dev.turn ht hx.1 hx.2 fun x hx => ?_, ?_, h1.mu.still (ht.block u h1.ult (by simpa using fun e => h.neu e.symm)), (hm.still (ht.block _ (by simp) (by simp; omega))).mono (Nat.zero_le _), by omega, h.outu, fun hx => ?_, h.loa, h.lou, Nat.le_trans h.loa (Nat.le_of_lt hal), h.b1, h.b2⟩, (Turn.of_below hb).then ht⟩
  · rw [List.mem_singleton.1 hx]
    exact .inr ⟨_, h1.c.1, fun z e => by cases e⟩
  · have := h1.cells
    simp [World.setCell, Array.getElem?_modify, this]
  · have := h.old _ (own_sub hx)
    omega
theorem AAt.nou8 (h : AAt w lo d n m D a u k A) : ∀ x ∈ aown d m a u k, ∀ off z, w.cell? ⟨x, off, none⟩ ≠ some (.int .u8 z) := by
  intro x hx off z
  rcases List.mem_cons.1 hx with rfl | hx
  · refine nou8_cells h.cells ?_ off z
    intro v hv z e
    subst e
    simp at hv
  rcases List.mem_cons.1 hx with rfl | hx
  · obtain ⟨es, ck, hb⟩ := h.mu.block
    intro e
    simp [World.cell?, hb] at e
  rcases List.mem_cons.1 hx with rfl | hx
  · obtain ⟨es, ck, hb⟩ := h.mh.block
    intro e
    simp [World.cell?, hb] at e
  · exact h.dev.nou8 x hx off z
end

/-- how many data blocks there are -/
def datas (b : Nat) : Nat := b - 2 * GeoW.half b
theorem datas_pos {b : Nat} (h1 : 300 ≤ b) : 0 < datas b ∧ datas b ≤ b ∧ 2 * GeoW.half b + datas b = b := by
  have := GeoW.half_le b
  have h : GeoW.half b ≤ b / 4 := by unfold GeoW.half; omega
  unfold datas
  omega
theorem datas_w (b : Nat) (w : World) (h2 : b ≤ 6000) :
    Calls Tryd.prog 104 #[GeoW.G b (GeoW.half b)] w fun e w' => e = .returned (.int .i64 (datas b : Nat)) ∧ Below w.heap.size w w' := by
  have hh := GeoW.half_le b
  have e : (b : Int) - 2 * (GeoW.half b : Int) = ((datas b : Nat) : Int) := by unfold datas; omega
  have HE := hid e
  generalize datas b = q at *
  generalize GeoW.half b = x at *
  obtain ⟨x0, x1⟩ := new2 w (.int .i64 b) (.int .i64 x) 116
  go_enter Tryd.func104, Tryd.ntmps104
  go_wp2
  go_ret
  exact ⟨rfl, (Below.refl _ _).alloc (Nat.le_refl _) _⟩
theorem data_w (b : Nat) (i : Int) (w : World) (h2 : b ≤ 6000) (hi : Fits i) :
    Calls Tryd.prog 103 #[GeoW.G b (GeoW.half b), .int .i64 i] w fun e w' => e = .returned (.bool (decide (2 * (GeoW.half b : Int) ≤ i ∧ i < b))) ∧ Below w.heap.size w w' := by
  obtain ⟨x, hx⟩ : ∃ x, x = GeoW.half b := ⟨_, rfl⟩
  have hx1 : x ≤ 6000 := by have := GeoW.half_le b; omega
  rw [← hx]
  obtain ⟨x0, x1⟩ := new2 w (.int .i64 b) (.int .i64 x) 116
  by_cases h0 : 0 ≤ i
  · have d0 : decide (0 ≤ i) = true := decide_eq_true h0
    by_cases h1 : i < b
    · have d1 : decide (i < (b : Int)) = true := decide_eq_true h1
      by_cases h3 : (x : Int) ≤ i / 2
      · have d3 : decide ((x : Int) ≤ i.tdiv 2) = true := by rw [decide_eq_true_eq, Int.tdiv_eq_ediv_of_nonneg h0]; exact h3
        go_enter Tryd.func103, Tryd.ntmps103
        go_wp2
        go_ret
        exact ⟨ret_bool (by first | rfl | (rw [Bool.eq_iff_iff]; simp; omega)), (Below.refl _ _).alloc (Nat.le_refl _) _⟩
      · have d3 : decide ((x : Int) ≤ i.tdiv 2) = false := by rw [decide_eq_false_iff_not, Int.tdiv_eq_ediv_of_nonneg h0]; exact h3
        go_enter Tryd.func103, Tryd.ntmps103
        go_wp2
        go_ret
        exact ⟨ret_bool (by first | rfl | (rw [Bool.eq_iff_iff]; simp; omega)), (Below.refl _ _).alloc (Nat.le_refl _) _⟩
    · have d1 : decide (i < (b : Int)) = false := decide_eq_false h1
      go_enter Tryd.func103, Tryd.ntmps103
      go_wp2
      go_ret
      exact ⟨ret_bool (by first | rfl | (rw [Bool.eq_iff_iff]; simp; omega)), (Below.refl _ _).alloc (Nat.le_refl _) _⟩
  · have d0 : decide (0 ≤ i) = false := decide_eq_false h0
    go_enter Tryd.func103, Tryd.ntmps103
    go_wp2
    go_ret
    exact ⟨ret_bool (by first | rfl | (rw [Bool.eq_iff_iff]; simp; omega)), (Below.refl _ _).alloc (Nat.le_refl _) _⟩
def Ar.free (A : Ar) (i : Int) : Bool := !A.used i && !A.held i
theorem free_w (lo d n : Nat) (m : Mp) (D : Dv) (a u k : Nat) (A : Ar) (i : Int) (w : World) (h : AAt w lo d n m D a u k A) (hi : Fits i) :
    Calls Tryd.prog 107 #[ptr a, .int .i64 i] w fun e w' => e = .returned (.bool (A.free i)) ∧ w = w' := by
  obtain ⟨c0, c1, c2, c3, c4, c5, f4, f5⟩ := h.c
  unfold Ar.free
  cases hU : A.used i
  · have lu := h.mu.look0 hi hU
    cases hK : A.held i
    · have lk := h.mh.look0 hi hK
      clear h
      go_enter Tryd.func107, Tryd.ntmps107
      go_wp2
      go_ret
      exact ⟨rfl, rfl⟩
    · have lk := h.mh.look1 hi hK
      clear h
      go_enter Tryd.func107, Tryd.ntmps107
      go_wp2
      go_ret
      exact ⟨rfl, rfl⟩
  · have lu := h.mu.look1 hi hU
    clear h
    go_enter Tryd.func107, Tryd.ntmps107
    go_wp2
    go_ret
    exact ⟨rfl, rfl⟩
end Go.Proofs.YtagbnacffiagcaaDoor.BlobW

namespace Go.Proofs.YtagbnacffiagcaaDoor.Crc

/-- bytes as one word, the first the lowest -/
def val : List Nat → Nat
  | [] => 0
  | c :: l => c ^^^ (val l * 256)
theorem run_val (l : List Nat) : ∀ s, run s l = bits (8 * l.length) (s ^^^ val l) := by
  induction l with
  | nil => intro s; simp [run, val, bits]
  | cons c l ih =>
    intro s
    have h1 : val l = step (val l * 256) := by rw [step_def]; exact (bits_high 8 (val l)).symm
    have hr : run s (c :: l) = run (step (s ^^^ c)) l := by rw [run]
    have hv : val (c :: l) = c ^^^ val l * 256 := by rw [val]
    have h2 : step (s ^^^ c) ^^^ val l = bits 8 (s ^^^ val (c :: l)) := by
      rw [hv, ← step_def, ← Nat.xor_assoc, step_xor (s ^^^ c), ← h1]
    have hl : 8 * (c :: l).length = 8 + 8 * l.length := by simp only [List.length_cons]; omega
    rw [hr, ih, h2, hl, bits_add]
theorem val_lt (l : List Nat) (h : Bytes l) : val l < 2 ^ (8 * l.length) := by
  induction l with
  | nil => simp [val]
  | cons c l ih =>
    have h1 := ih h.tail
    have hc := h.head
    have e : 8 * (c :: l).length = 8 * l.length + 8 := by simp; omega
    rw [e]
    refine Nat.xor_lt_two_pow ?_ ?_
    · exact Nat.lt_of_lt_of_le hc (Nat.pow_le_pow_right (n := 2) (i := 8) (by decide) (by omega))
    · rw [Nat.pow_add]
      exact Nat.mul_lt_mul_of_pos_right h1 (by decide)
theorem val_zero (l : List Nat) (h : Bytes l) (hv : val l = 0) : ∀ x ∈ l, x = 0 := by
  induction l with
  | nil => simp
  | cons c l ih =>
    have hc := h.head
    have h1 : c = val l * 256 := by
      have := congrArg (· ^^^ (val l * 256)) hv
      simpa [val, Nat.xor_assoc] using this
    have h2 : val l = 0 := by omega
    intro x hx
    rcases List.mem_cons.1 hx with rfl | hx
    · omega
    · exact ih h.tail h2 x hx
theorem turn_bytes : ∀ (a b : List Nat), Bytes a → Bytes b → Bytes (turn a b)
  | [], _, _, _ => by simp [turn, Bytes]
  | _ :: _, [], _, _ => by simp [turn, Bytes]
  | x :: a, y :: b, ha, hb => by
    intro z hz
    rcases List.mem_cons.1 hz with rfl | hz
    · exact xor_byte ha.head hb.head
    · exact turn_bytes a b ha.tail hb.tail z hz
theorem turn_length : ∀ (a b : List Nat), a.length = b.length → (turn a b).length = a.length
  | [], _, _ => by simp [turn]
  | _ :: _, [], h => by simp at h
  | _ :: a, _ :: b, h => by simp [turn, turn_length a b (by simpa using h)]
theorem turn_zero : ∀ (a b : List Nat), a.length = b.length → (∀ x ∈ turn a b, x = 0) → a = b
  | [], b, h, _ => by cases b; rfl; simp at h
  | x :: a, [], h, _ => by simp at h
  | x :: a, y :: b, h, hz => by
    have h1 : x ^^^ y = 0 := hz _ (by simp [turn])
    have h2 : x = y := by
      have := congrArg (· ^^^ y) h1
      simpa [Nat.xor_assoc] using this
    rw [h2, turn_zero a b (by simpa using h) (fun z hz' => hz z (by simp [turn, hz']))]
/-- four bytes or fewer -/
theorem run_four {a b : List Nat} (ha : Bytes a) (hb : Bytes b) (hl : a.length = b.length) (h4 : a.length ≤ 4) {s : Nat} (h : run s a = run s b) : a = b := by
  have h1 : run 0 (turn a b) = 0 := by
    have := run_xor a b s s hl
    rw [h, Nat.xor_self, Nat.xor_self] at this
    exact this.symm
  rw [run_val, Nat.zero_xor] at h1
  have ht := turn_bytes a b ha hb
  have hv := val_lt _ ht
  rw [turn_length a b hl] at hv
  have hW : val (turn a b) < W := Nat.lt_of_lt_of_le hv (Nat.pow_le_pow_right (n := 2) (j := 32) (by decide) (by omega))
  exact turn_zero a b hl (val_zero _ ht (bits_eq_zero _ hW h1))
theorem Bytes_append {a b : List Nat} (h : Bytes (a ++ b)) : Bytes a ∧ Bytes b := ⟨fun x hx => h x (by simp [hx]), fun x hx => h x (by simp [hx])⟩
theorem sum_four {a m m' b : List Nat} (h : Bytes (a ++ (m ++ b))) (h' : Bytes (a ++ (m' ++ b))) (hl : m.length = m'.length) (h4 : m.length ≤ 4)
    (hs : sum (a ++ (m ++ b)) = sum (a ++ (m' ++ b))) : m = m' := by
  have h1 := sum_inj hs
  rw [run_append, run_append, run_append, run_append] at h1
  have ha := (Bytes_append h).1
  have hm := (Bytes_append (Bytes_append h).2).1
  have hb := (Bytes_append (Bytes_append h).2).2
  have hm' := (Bytes_append (Bytes_append h').2).1
  have hr := run_lt a (s := W - 1) top_lt ha
  exact run_four hm hm' hl h4 (run_inj b (run_lt m hr hm) (run_lt m' hr hm') hb h1)

/-- which bytes were turned -/
theorem turnK_get (l : List Nat) (p t k : Nat) : ∀ j, (turnK l (p : Int) t k)[j]? = (l[j]?).map fun c => if p ≤ j ∧ j < p + k then c ^^^ byteOf t (j - p) else c := by
  induction k with
  | zero => intro j; simp only [turnK]; cases l[j]? with
    | none => rfl
    | some c => simp only [Option.map_some]; rw [if_neg (by omega)]
  | succ k ih =>
    intro j
    show (turn1 (turnK l p t k) p t k)[j]? = _
    unfold turn1
    rw [turnK_length]
    by_cases hin : p + k < l.length
    · rw [if_pos (by omega)]
      simp only [Int.toNat_natCast]
      rw [List.getElem?_set, turnK_length, List.getD_eq_getElem?_getD, ih (p + k), List.getElem?_eq_getElem hin]
      by_cases e : p + k = j
      · subst e
        rw [if_pos rfl, if_pos hin]
        rw [List.getElem?_eq_getElem hin]
        simp only [Option.map_some, Option.getD_some]
        rw [if_neg (by omega), if_pos (by omega)]
        rw [Nat.add_sub_cancel_left]
      · rw [if_neg e, ih j]
        cases l[j]? with
        | none => rfl
        | some c =>
          simp only [Option.map_some]
          by_cases h2 : p ≤ j ∧ j < p + k
          · rw [if_pos h2, if_pos (by omega)]
          · rw [if_neg h2, if_neg (by omega)]
    · rw [if_neg (by omega), ih j]
      by_cases hj : j < l.length
      · rw [List.getElem?_eq_getElem hj]
        simp only [Option.map_some]
        by_cases h2 : p ≤ j ∧ j < p + k
        · rw [if_pos h2, if_pos (by omega)]
        · rw [if_neg h2, if_neg (by omega)]
      · rw [List.getElem?_eq_none (by omega)]; rfl
theorem turned_neg (l : List Nat) {at_ : Int} (t : Nat) (h : at_ < 0) : ∀ k, turnK l at_ t k = l
  | 0 => rfl
  | k + 1 => by rw [turnK, turned_neg l t h k]; unfold turn1; rw [if_neg (by omega)]
theorem turned_length (l : List Nat) (at_ : Int) (t : Nat) : (turned l at_ t).length = l.length := turnK_length l at_ t 4
theorem turned_bytes {l : List Nat} (h : Bytes l) (at_ : Int) (t : Nat) : Bytes (turned l at_ t) := turnK_bytes h at_ t 4
/-- turned twice -/
theorem turned_twice (l : List Nat) (at_ : Int) (t : Nat) : turned (turned l at_ t) at_ t = l := by
  by_cases h : at_ < 0
  · unfold turned; rw [turned_neg _ _ h, turned_neg _ _ h]
  · obtain ⟨p, rfl⟩ := Int.eq_ofNat_of_zero_le (a := at_) (by omega)
    apply List.ext_getElem?
    intro j
    show (turnK _ (p : Int) t 4)[j]? = _
    rw [turnK_get]
    show Option.map _ (turnK l (p : Int) t 4)[j]? = _
    rw [turnK_get]
    cases l[j]? with
    | none => rfl
    | some c =>
      simp only [Option.map_some]
      by_cases h2 : p ≤ j ∧ j < p + 4
      · rw [if_pos h2, if_pos h2, Nat.xor_assoc, Nat.xor_self, Nat.xor_zero]
      · rw [if_neg h2, if_neg h2]
theorem parts (l : List Nat) (p : Nat) : l = l.take p ++ ((l.drop p).take 4 ++ l.drop (p + 4)) := by
  have h1 : (l.drop p).take 4 ++ (l.drop p).drop 4 = l.drop p := List.take_append_drop 4 _
  rw [List.drop_drop] at h1
  rw [h1, List.take_append_drop]
/-- turned bytes have another sum, but where nothing was turned -/
theorem turned_sum {l : List Nat} (hb : Bytes l) (at_ : Int) (t : Nat) : (sum (turned l at_ t) = sum l) ↔ l = turned l at_ t := by
  constructor
  · intro h
    by_cases hn : at_ < 0
    · unfold turned; rw [turned_neg _ _ hn]
    · obtain ⟨p, rfl⟩ := Int.eq_ofNat_of_zero_le (a := at_) (by omega)
      have hb' := turned_bytes hb (p : Int) t
      have hlen := turned_length l (p : Int) t
      have hget : ∀ j, (turned l (p : Int) t)[j]? = _ := turnK_get l p t 4
      generalize hm : turned l (p : Int) t = m at *
      have e1 : m.take p = l.take p := by
        apply List.ext_getElem?
        intro j
        rw [List.getElem?_take, List.getElem?_take]
        by_cases hj : j < p
        · rw [if_pos hj, if_pos hj, hget j]
          cases l[j]? with
          | none => rfl
          | some c => simp only [Option.map_some]; rw [if_neg (by omega)]
        · rw [if_neg hj, if_neg hj]
      have e2 : m.drop (p + 4) = l.drop (p + 4) := by
        apply List.ext_getElem?
        intro j
        rw [List.getElem?_drop, List.getElem?_drop, hget]
        cases l[p + 4 + j]? with
        | none => rfl
        | some c => simp only [Option.map_some]; rw [if_neg (by omega)]
      have pm := parts m p
      have pl := parts l p
      rw [e1, e2] at pm
      have hs : sum (l.take p ++ ((l.drop p).take 4 ++ l.drop (p + 4))) = sum (l.take p ++ ((m.drop p).take 4 ++ l.drop (p + 4))) := by
        rw [← pm, ← pl]; exact h.symm
      have e3 := sum_four (by rw [← pl]; exact hb) (by rw [← pm]; exact hb') (by simp [hlen]) (by simp; omega) hs
      rw [pm, ← e3, ← pl]
  · intro h; rw [← h]

/-- nothing, as long -/
theorem turn_turned (l : List Nat) (at_ : Int) (t : Nat) : turn l (turned l at_ t) = turn (turned (List.replicate l.length 0) at_ t) (List.replicate l.length 0) := by
  have get : ∀ (a b : List Nat) (j : Nat), (turn a b)[j]? = (match a[j]?, b[j]? with | some x, some y => some (x ^^^ y) | _, _ => none) := by
    intro a
    induction a with
    | nil => intro b j; simp [turn]
    | cons x a ih =>
      intro b j
      cases b with
      | nil => cases j <;> simp [turn]
      | cons y b =>
        cases j with
        | zero => simp [turn]
        | succ j => simp only [turn, List.getElem?_cons_succ]; exact ih b j
  apply List.ext_getElem?
  intro j
  rw [get, get]
  by_cases hn : at_ < 0
  · unfold turned; rw [turned_neg _ _ hn, turned_neg _ _ hn]
    by_cases hj : j < l.length
    · simp [hj]
    · simp [hj]
  · obtain ⟨p, rfl⟩ := Int.eq_ofNat_of_zero_le (a := at_) (by omega)
    show (match l[j]?, (turnK l (p : Int) t 4)[j]? with | some x, some y => some (x ^^^ y) | _, _ => none) = (match (turnK (List.replicate l.length 0) (p : Int) t 4)[j]?, (List.replicate l.length 0)[j]? with | some x, some y => some (x ^^^ y) | _, _ => none)
    rw [turnK_get, turnK_get]
    by_cases hj : j < l.length
    · rw [List.getElem?_eq_getElem hj, List.getElem?_replicate, if_pos hj]
      simp only [Option.map_some]
      by_cases h2 : p ≤ j ∧ j < p + 4
      · rw [if_pos h2, if_pos h2, ← Nat.xor_assoc]; simp
      · rw [if_neg h2, if_neg h2]; simp
    · rw [List.getElem?_eq_none (by omega), List.getElem?_replicate, if_neg hj]; rfl
theorem four_xor (a b c d q : Nat) (h : a ^^^ b = c ^^^ d) : (a ^^^ q) ^^^ (b ^^^ q) ^^^ (c ^^^ q) ^^^ (d ^^^ q) = 0 := by
  have e : ∀ x y : Nat, (x ^^^ q) ^^^ (y ^^^ q) = x ^^^ y := by
    intro x y
    rw [Nat.xor_assoc, ← Nat.xor_assoc q, Nat.xor_comm q, Nat.xor_assoc y, Nat.xor_self, Nat.xor_zero]
  rw [e, Nat.xor_assoc, e, h, Nat.xor_self]
/-- the four sums of CrcXors -/
theorem sum_turned (l : List Nat) (at_ : Int) (t : Nat) :
    sum l ^^^ sum (turned l at_ t) ^^^ sum (turned (List.replicate l.length 0) at_ t) ^^^ sum (List.replicate l.length 0) = 0 := by
  refine four_xor _ _ _ _ _ ?_
  rw [run_xor _ _ _ _ (by rw [turned_length]), run_xor _ _ _ _ (by rw [turned_length]), turn_turned]
end Go.Proofs.YtagbnacffiagcaaDoor.Crc

namespace Go.Proofs.YtagbnacffiagcaaDoor.Crc
open Go

theorem turned_ne {l : List Nat} {p t : Nat} (hl : p + 4 ≤ l.length) (h0 : t ≠ 0) (ht : t < 4294967296) : turned l (p : Int) t ≠ l := by
  intro e
  have hb : ∀ k, k < 4 → byteOf t k = 0 := by
    intro k hk
    have h1 := turnK_get l p t 4 (p + k)
    rw [show turnK l (p : Int) t 4 = l from e] at h1
    have hlt : p + k < l.length := by omega
    rw [List.getElem?_eq_getElem hlt] at h1
    simp only [Option.map_some] at h1
    rw [if_pos (by omega), Nat.add_sub_cancel_left] at h1
    have h2 := Option.some.inj h1
    have h3 := congrArg (· ^^^ l[p + k]) h2
    simp only [Nat.xor_self] at h3
    rw [Nat.xor_comm l[p + k] (byteOf t k), Nat.xor_assoc, Nat.xor_self, Nat.xor_zero] at h3
    exact h3.symm
  have b0 := hb 0 (by omega)
  have b1 := hb 1 (by omega)
  have b2 := hb 2 (by omega)
  have b3 := hb 3 (by omega)
  unfold byteOf at b0 b1 b2 b3
  simp only [Nat.shiftRight_eq_div_pow] at b0 b1 b2 b3
  simp at b0 b1 b2 b3
  omega
theorem turned_sum_ne {l : List Nat} (hb : Bytes l) {p t : Nat} (hl : p + 4 ≤ l.length) (h0 : t ≠ 0) (ht : t < 4294967296) : sum (turned l (p : Int) t) ≠ sum l := by
  intro e
  exact turned_ne hl h0 ht ((turned_sum hb p t).1 e).symm

/-- a block of some bytes -/
def pad (l : List Nat) : List Nat := l ++ List.replicate (256 - l.length) 0
theorem pad_length {l : List Nat} (h : l.length ≤ 256) : (pad l).length = 256 := by
  unfold pad; rw [List.length_append, List.length_replicate]; omega
theorem pad_bytes {l : List Nat} (h : Bytes l) : Bytes (pad l) := by
  intro x hx
  rcases List.mem_append.1 hx with hx | hx
  · exact h x hx
  · rw [(List.mem_replicate.1 hx).2]; decide
theorem zeros_bytes (n : Nat) : Bytes (List.replicate n 0) := by
  intro x hx
  rw [(List.mem_replicate.1 hx).2]; decide
/-- one more byte laid -/
theorem pad_set {l : List Nat} {k : Nat} (h : k < l.length) (h2 : l.length ≤ 256) : (l.take k ++ List.replicate (256 - k) 0).set k l[k] = l.take (k + 1) ++ List.replicate (256 - (k + 1)) 0 := by
  have e : List.replicate (256 - k) (0 : Nat) = 0 :: List.replicate (256 - (k + 1)) 0 := by
    rw [show 256 - k = (256 - (k + 1)) + 1 by omega, List.replicate_succ]
  have hl : (l.take k).length = k := by rw [List.length_take]; omega
  rw [e, List.set_append_right _ _ (by omega), hl, Nat.sub_self, List.set_cons_zero, List.take_succ_eq_append_getElem h, List.append_assoc]
  rfl
end Go.Proofs.YtagbnacffiagcaaDoor.Crc

namespace Go.Proofs.YtagbnacffiagcaaDoor.BlobW
open Go Go.RowKit Go.Proofs.YtagbnacffiagcaaDoor.Mem
set_option linter.unusedVariables false
set_option maxRecDepth 100000

/-- a slice of a block's bytes, new -/
def NewBlock (w : World) (l : List Nat) (e : Ending) (w' : World) : Prop := ∃ g cap, e = .returned (.slice (some ⟨g, 0, none⟩) 256 cap) ∧ Nums .u8 w' (some ⟨g, 0, none⟩) 256 cap l ∧ w.heap.size ≤ g ∧ Below w.heap.size w w'
set_option maxHeartbeats 1600000 in
theorem full_w (a : Option Addr) (n cap : Nat) (l : List Nat) (w : World) (h0 : Nums .u8 w a n cap l) (hn : n ≤ 256) :
    Calls Tryd.prog 64 #[.slice a n cap] w (NewBlock w (Crc.pad l)) := by
  have hll := h0.len
  have HL := hid hll
  obtain ⟨cb1, cb2⟩ := h0.bound
  go_enter Tryd.func64, Tryd.ntmps64
  go_wp2_with (at_make; go_must (refine wpList_mkn RefW.elU8 rfl _ _ rfl w.heap.size _ _ _ _ 256 rfl rfl rfl rfl (by decide) (by decide) (Nat.le_refl _) ?_); intro w2 own2 hg2)
  rw [RefW.made_nums] at own2
  have g2 := below_growns hg2 (Nat.le_refl _)
  clear hg2
  go_loopw [4] (fun i wr => ∃ k : Nat, k ≤ n ∧ i = .int .i64 k ∧ OwnN wr w.heap.size 5 .u8 w.heap.size 256 256 (l.take k ++ List.replicate (256 - k) 0) ∧ Below w.heap.size w wr) (fun i _ => n - (intOf i).toNat)
  case atStart => exact ⟨0, by omega, rfl, by simpa using own2, g2⟩
  case round =>
    clear own2 g2
    obtain ⟨k, hk, rfl, hown, hb⟩ := hrel
    by_cases hlt : k < n
    · have hkl : k < l.length := by rw [HL.out]; exact hlt
      have HF := hid (Crc.pad_set hkl (by rw [HL.out]; exact hn))
      obtain ⟨b0, o0, rfl, hc0⟩ := (h0.below hb).at hkl
      generalize l[k] = x at hc0 HF
      have hlen : (l.take k ++ List.replicate (256 - k) 0).length = 256 := OwnN.len hown
      obtain ⟨y, hy⟩ : ∃ y, wr.cell? ⟨w.heap.size, k, none⟩ = some y := ⟨_, OwnN.cell hown (j := k) (by omega)⟩
      have hf := World.ownsRow.frozenAt hown k
      have k256 : (k : Int) < 256 := by omega
      have HO := hid hown
      clear hown hlen hll
      go_wp2
      go_roundw
      case rel => exact ⟨k + 1, by omega, by go_num, by rw [← HF.out]; exact OwnN.set HO.out k x, hb.setCell (Nat.le_refl _) _⟩
      case measure => simp [intOf]; omega
    · obtain rfl : k = n := by omega
      rw [List.take_of_length_le (by omega)] at hown
      have HO := hid hown
      have e : l ++ List.replicate (256 - k) 0 = Crc.pad l := by unfold Crc.pad; rw [hll]
      clear hown
      go_wp2
      go_ret
      rw [e] at HO
      exact ⟨_, _, rfl, OwnN.nums HO.out, Nat.le_refl _, hb⟩

theorem own_heap {w : World} {base g n : Nat} {l : List Nat} (h : OwnN w base 5 .u8 g n n l) : w.heap[g]? = some (.cells (nums .u8 l).toArray 5 (0, 0)) := by
  have hl := h.len
  rcases h.2 with ⟨e, _⟩ | ⟨g', c, cur, e, _, hg, _, _, hcs, htk⟩
  · cases e
  · cases e
    rw [hg]
    congr 2
    apply Array.ext'
    rw [List.take_of_length_le (by rw [Array.length_toList, hcs]; omega)] at htk
    exact htk
theorem heap_own {w : World} {base g : Nat} {l : List Nat} (hg : w.heap[g]? = some (.cells (nums .u8 l).toArray 5 (0, 0))) (hb : base ≤ g) (hl : l.length = 256) : OwnN w base 5 .u8 g 256 256 l :=
  ⟨by simp [nums, hl], .inr ⟨g, 256, (nums .u8 l).toArray, rfl, hb, hg, Nat.le_refl _, by unfold maxLen; omega, by simp [nums, hl], by rw [List.take_of_length_le (by simp [nums, hl])]⟩⟩
theorem splice_nums (l m : List Nat) (i : Nat) : splice (nums .u8 l) i (nums .u8 m) = nums .u8 (splice l i m) := by
  simp [splice, nums, List.map_take, List.map_drop]

theorem src {w : World} {a : Option Addr} {n c : Nat} {l : List Nat} (h : Nums .u8 w a n c l) (hn : 0 < n) : ∃ ad, a = some ad ∧ ∀ j v, (nums .u8 l)[j]? = some v → w.cell? (ad.add j) = some v := by
  obtain ⟨b0, o0, rfl, _⟩ := h.at (j := 0) (by rw [h.len]; exact hn)
  exact ⟨_, rfl, fun j v hj => by rw [Addr.add_lit]; exact Row.cell h hj⟩
theorem splice_pad {l : List Nat} : splice (List.replicate 256 0) 0 l = Crc.pad l := by
  unfold splice Crc.pad
  rw [List.take_zero, List.nil_append, List.drop_replicate, Nat.zero_add]
end Go.Proofs.YtagbnacffiagcaaDoor.BlobW

namespace Go.Proofs.YtagbnacffiagcaaDoor.BlobW
open Go Go.RowKit Go.Maps Go.Proofs.YtagbnacffiagcaaDoor.Mem Go.Proofs.YtagbnacffiagcaaDoor.MapsW Go.Proofs.YtagbnacffiagcaaDoor.SeeW Go.Proofs.YtagbnacffiagcaaDoor.DevG
set_option linter.unusedVariables false
set_option maxRecDepth 100000

/-- what is written elsewhere leaves the area -/
theorem AAt.away {w w' : World} {lo d n : Nat} {m : Mp} {D : Dv} {a u k : Nat} {A : Ar} {S : List Nat} (h : AAt w lo d n m D a u k A) (ht : Turn S w w') (hS : ∀ x ∈ S, x ∉ aown d m a u k) (hc : ∀ x ∈ S, NoCells w x ∨ ∃ v, w.cell? ⟨x, 0, none⟩ = some v ∧ ∀ z, v ≠ .int .u8 z) : AAt w' lo d n m D a u k A := by
  have hd : d ∈ aown d m a u k := own_sub (mem_own d m).1
  have ha : a ∈ aown d m a u k := by simp
  have hu : u ∈ aown d m a u k := by simp
  have hk : k ∈ aown d m a u k := by simp
  exact ⟨h.dev.turn ht (fun e => hS _ e hd) (fun x hx e => hS _ e (own_sub (List.mem_cons_of_mem _ hx))) hc, ht.cells h.cells (fun e => hS _ e ha), h.mu.still (ht.block u h.ult fun e => hS _ e hu), h.mh.still (ht.block k h.klt fun e => hS _ e hk), h.ne, h.outu, h.outk, h.loa, h.lou, h.lok, h.b1, h.b2⟩
/-- a block put in use -/
def Ar.use (A : Ar) (i : Int) : Ar := { A with used := upd A.used i true, nu := if A.used i then A.nu else A.nu + 1 }
abbrev cells2 (R : Nat) (x y : Value) (w : World) : Prop := w.heap[R]? = some (.cells #[x, y] 32)
theorem set2 {w : World} {R : Nat} {x y x' y' : Value} (h : cells2 R x y w) : cells2 R x' y' ((w.setCell ⟨R, 0, none⟩ x').setCell ⟨R, 1, none⟩ y') := by
  have h' : w.heap[R]? = some (.cells #[x, y] 32) := h
  show ((w.setCell ⟨R, 0, none⟩ x').setCell ⟨R, 1, none⟩ y').heap[R]? = _
  simp [World.setCell, Array.getElem?_modify, h']
theorem turn2 (w : World) (R : Nat) (x y : Value) : Turn [R] w ((w.setCell ⟨R, 0, none⟩ x).setCell ⟨R, 1, none⟩ y) :=
  (Turn.setCell w R 0 x (by simp)).then (Turn.setCell _ R 1 y (by simp))
/-- what is handed back of a block laid down -/
def Laid (lo d n : Nat) (m : Mp) (D : Dv) (a u k : Nat) (A : Ar) (i : Nat) (l : List Nat) (w : World) (e : Ending) (w' : World) : Prop :=
  e = .returned (.tuple #[.agg #[.int .i64 i, .int .u32 (Crc.sum (Crc.pad l) : Nat)], .nilIface]) ∧ AAt w' lo d n m (D.put i (Crc.pad l)) a u k (A.use i) ∧ Turn (aown d m a u k) w w'
set_option maxHeartbeats 3200000 in
theorem lay_w (lo d n : Nat) (m : Mp) (D : Dv) (a u k : Nat) (A : Ar) (i : Nat) (s : Option Addr) (len cap : Nat) (l : List Nat) (w : World) (h : AAt w lo d n m D a u k A) (hl : Nums .u8 w s len cap l) (hlb : Crc.Bytes l) (hlen : len ≤ 256) (hi : i < D.blocks) (hn : n < 90000) (hc : D.calls < 1000000) (hf : D.fuse = 0) (hdn : D.down = false) :
    Calls Tryd.prog 108 #[ptr a, .int .i64 i, .slice s len cap] w (Laid lo d (n + 2) m D a u k A i l w) := by
  have hll := hl.len
  have HLB := hid hlb
  have hfi : Fits (i : Int) := fits_nat (by have := h.b2; omega)
  have b0 := (Below.refl w.heap.size w).alloc (Nat.le_refl _) (.cells #[.int .i64 0, .int .u32 0] 32)
  have hl0 := hl.below b0
  have r0 : cells2 w.heap.size (.int .i64 0) (.int .u32 0) (w.alloc (.cells #[.int .i64 0, .int .u32 0] 32)) := heap_alloc_new _ _
  have hz0 : (w.alloc (.cells #[.int .i64 0, .int .u32 0] 32)).heap.size = w.heap.size + 1 := by simp
  have OLD := hid h.old
  have H := hid h
  clear h hl
  go_enter Tryd.func108, Tryd.ntmps108
  go_upto_region 2 with (at_make; go_must (refine wpList_mkn RefW.elU8 rfl _ _ rfl (w.heap.size + 1) _ _ _ _ 256 rfl rfl rfl rfl (by decide) (by decide) (by simp) ?_); intro w1 hown1 hg1)
  rw [RefW.made_nums, hz0] at hown1
  have H1 := own_heap hown1
  have g1 := below_growns hg1 (Nat.le_refl _)
  have hl1 := hl0.below g1
  have r1 : cells2 w.heap.size (.int .i64 0) (.int .u32 0) w1 := (g1.block w.heap.size (by simp)).trans r0
  have b1 := b0.trans (g1.mono (by omega))
  have z1 := g1.size
  rw [hz0] at z1
  have HC := hid (show 0 < (nums .u8 l).length → ∃ ad, s = some ad ∧ ∀ j v, (nums .u8 l)[j]? = some v → w1.cell? (ad.add j) = some v from fun q => src hl1 (by rw [nums_length, hll] at q; exact q))
  clear hown1 hg1 g1 hl0 r0 hz0 b0 hl1
  go_upto_region 3 with (refine wpList_copy_splice (o := ⟨some 13, _, _, _, _, _⟩) rfl (.tmp 11) (.tmp 12) _ _ rfl 5 Tryd.underlying28 (by kernel_rfl) _ _ 256 256 len cap rfl rfl (w.heap.size + 1) 0 (nums .u8 (List.replicate 256 0)) 5 H1 (nums .u8 l) (by rw [nums_length, hll]; exact (Nat.min_eq_left hlen).symm) (fun q => ⟨rfl, HC.out q⟩) (by rw [nums_length, nums_length, hll, List.length_replicate]; omega) (nums_oneCell _ _) (w.heap.size + 1) w1 (Below.refl _ _) (Nat.le_refl _) ?_; intro w2 H2 hb2)
  replace H2 := H2.out
  rw [splice_nums, splice_pad] at H2
  have B2 := b1.trans (hb2.mono (Nat.le_succ _))
  have h2 := H.out.below B2
  have r2 : cells2 w.heap.size (.int .i64 0) (.int .u32 0) w2 := (hb2.block w.heap.size (Nat.lt_succ_self _)).trans r1
  have n2 : Nums .u8 w2 (some ⟨w.heap.size + 1, 0, none⟩) 256 256 (Crc.pad l) := (heap_own H2 (Nat.le_refl _) (Crc.pad_length (by omega))).nums
  have htk : D.tick = D := Dv.tick_zero hf
  have hw := write_ok d lo n m D i _ 256 (Crc.pad l) w2 h2.dev hi h2.b2 n2 (by omega) hc (by omega) (by rw [htk]; exact hdn)
  rw [htk] at hw
  obtain ⟨c0, c1, c2, c3, c4, c5, f4, f5⟩ := h2.c
  have H2' := hid h2
  have OUT : w.heap.size ∉ own d m := fun e => by have := OLD.out _ (own_sub e); omega
  have N2 := hid (fun w' (t : Turn (own d m) w2 w') => nums_turn n2 t h2.dev.nou8)
  clear H1 HC r1 b1 hb2 h2 H2 n2 hlb
  go_wp2_with fail
  refine hw.mono ?_
  rintro e w3 ⟨rfl, h3, t3⟩
  have A3 := H2'.out.turn' h3 t3 rfl (Nat.le_succ n)
  have r3 : cells2 w.heap.size (.int .i64 0) (.int .u32 0) w3 := t3.cells r2 OUT
  have n3 := N2.out _ t3
  have T3 := hid ((Turn.of_below (S := own d m) B2).then t3)
  obtain ⟨c0, c1, c2, c3, c4, c5, f4, f5⟩ := A3.c
  have HA3 := hid A3
  clear hw h3 t3 r2 H2' N2 B2 A3
  go_wp2_with (at_mapUpdate; refine wpList_putNum _ rfl _ _ _ rfl HA3.out.mu (by omega) hfi rfl rfl rfl ?_; intro w4 hr4 hg4)
  obtain ⟨A4, t4⟩ := HA3.out.setU hg4 hr4 (Nat.le_succ _)
  have ru : w.heap.size ∉ [u] := fun e => by
    have := OLD.out u (by simp)
    rw [List.mem_singleton.1 e] at this
    omega
  have r4 : cells2 w.heap.size (.int .i64 0) (.int .u32 0) w4 := t4.cells r3 ru
  have n4 := nums_turn n3 t4 fun x hx off z => HA3.out.nou8 x (by rw [List.mem_singleton.1 hx]; simp) off z
  have T4 := hid ((T3.out.mono (S' := aown d m a u k) fun x hx => own_sub hx).then (t4.mono fun x hx => by rw [List.mem_singleton.1 hx]; simp))
  have HA4 := hid A4
  clear HA3 n3 r3 T3 hr4 hg4 t4 A4 c0 c1 c2 c3 c4 c5 f4 f5
  go_wp2_with fail
  refine (CrcW.sum_w _ 256 256 _ _ n4 (Crc.pad_bytes HLB.out)).mono ?_
  rintro e w5 ⟨rfl, rfl⟩
  obtain ⟨x0, x1, f0, f1⟩ := RootW.blk_c r4
  clear n4
  go_wp2_with fail
  have q := turn2 w4 w.heap.size (.int .i64 i) (.int .u32 (Crc.sum (Crc.pad l) : Nat))
  refine bodyPost_ret (v := .tuple #[.agg #[.int .i64 i, .int .u32 (Crc.sum (Crc.pad l) : Nat)], .nilIface]) (by simp [results, Tryd.results108, go_sem, x0, x1]) rfl ⟨rfl, HA4.out.away q (fun x hx e => ?_) (fun x hx => ?_), T4.out.trans q fun x hx => .inr (by rw [List.mem_singleton.1 hx]; exact Nat.le_refl _)⟩
  · rw [List.mem_singleton.1 hx] at e
    have := OLD.out _ e
    omega
  · rw [List.mem_singleton.1 hx]
    exact .inr ⟨_, x0, fun z e => by cases e⟩
end Go.Proofs.YtagbnacffiagcaaDoor.BlobW

namespace Go.Proofs.YtagbnacffiagcaaDoor.BlobW
open Go Go.RowKit Go.Maps Go.Proofs.YtagbnacffiagcaaDoor.Mem Go.Proofs.YtagbnacffiagcaaDoor.MapsW Go.Proofs.YtagbnacffiagcaaDoor.SeeW Go.Proofs.YtagbnacffiagcaaDoor.DevG
set_option linter.unusedVariables false
set_option maxRecDepth 100000

/-- the first data block; the k-th behind the last one, round -/
def first (b : Nat) : Nat := 2 * GeoW.half b
def spot (b last k : Nat) : Nat := first b + (last - first b + 1 + k) % datas b
/-- where the next one is put -/
def Ar.next (A : Ar) (b : Nat) : Option Nat := ((List.range (datas b)).map (spot b A.last)).find? fun i => A.free (i : Int)
theorem next_some {A : Ar} {b i : Nat} (h : A.next b = some i) : ∃ K, K < datas b ∧ i = spot b A.last K ∧ A.free (i : Int) = true ∧ ∀ j, j < K → A.free (spot b A.last j : Nat) = false := by
  obtain ⟨h1, K, hK, h2, h3⟩ := List.find?_eq_some_iff_getElem.1 h
  rw [List.length_map, List.length_range] at hK
  rw [List.getElem_map, List.getElem_range] at h2
  refine ⟨K, hK, h2.symm, h1, fun j hj => ?_⟩
  have := h3 j hj
  rw [List.getElem_map, List.getElem_range] at this
  simpa using this
theorem next_none {A : Ar} {b : Nat} (h : A.next b = none) : ∀ j, j < datas b → A.free (spot b A.last j : Nat) = false := by
  intro j hj
  have := List.find?_eq_none.1 h (spot b A.last j) (List.mem_map.2 ⟨j, List.mem_range.2 hj, rfl⟩)
  simpa using this
theorem spot_in {b last k : Nat} (h1 : 300 ≤ b) : first b ≤ spot b last k ∧ spot b last k < b := by
  have := datas_pos h1
  have h := Nat.mod_lt (last - first b + 1 + k) this.1
  unfold spot first at *
  omega
theorem first_w (lo d n : Nat) (m : Mp) (D : Dv) (a u k : Nat) (A : Ar) (w : World) (h : AAt w lo d n m D a u k A) :
    Calls Tryd.prog 106 #[ptr a] w fun e w' => e = .returned (.int .i64 (first D.blocks : Nat)) ∧ Below w.heap.size w w' := by
  obtain ⟨c0, c1, c2, c3, c4, c5, f4, f5⟩ := h.c
  have hp := datas_pos h.b1
  have hb2 := h.b2
  have hd := fun w => datas_w D.blocks w h.b2
  have e : ((first D.blocks : Nat) : Int) = (D.blocks : Int) - (datas D.blocks : Int) := by unfold first; omega
  rw [e]
  clear e h
  have hw : IntKind.i64.wrap ((D.blocks : Int) - (datas D.blocks : Int)) = (D.blocks : Int) - (datas D.blocks : Int) := by rw [IntKind.wrap_i64]; omega
  generalize D.blocks = b at *
  generalize datas b = q at *
  generalize GeoW.half b = x at *
  go_enter Tryd.func106, Tryd.ntmps106
  go_wp2_with fail
  go_region_held3 (fun w' => w'.cell? ⟨a, 1, none⟩ = some (.int .i64 b) ∧ w'.cell? ⟨a, 2, none⟩ = some (.int .i64 x))
    (first | exact ⟨c1, c2⟩ | exact ⟨kept b3 c1, kept b3 c2⟩ | go_keep)
    ((go_at_call 104; refine (hd _).mono ?_; rintro e w3 ⟨rfl, b3⟩))
  go_wp2
  go_ret
  exact ⟨rfl, (Below.drew (Below.refl w.heap.size w)).trans b3⟩

/-- a block put -/
def Ar.put (A : Ar) (i : Nat) : Ar := { A.use i with last := i }
def Put (lo d n : Nat) (m : Mp) (D : Dv) (a u k : Nat) (A : Ar) (i : Nat) (l : List Nat) (w : World) (e : Ending) (w' : World) : Prop :=
  e = .returned (.tuple #[.agg #[.int .i64 i, .int .u32 (Crc.sum (Crc.pad l) : Nat)], .nilIface]) ∧ AAt w' lo d n m (D.put i (Crc.pad l)) a u k (A.put i) ∧ Turn (aown d m a u k) w w'
set_option maxHeartbeats 3200000 in
theorem put_w (lo d n : Nat) (m : Mp) (D : Dv) (a u k : Nat) (A : Ar) (i : Nat) (s : Option Addr) (len cap : Nat) (l : List Nat) (w : World) (h : AAt w lo d n m D a u k A) (hl : Nums .u8 w s len cap l) (hlb : Crc.Bytes l) (hlen : len ≤ 256) (hn : n < 90000) (hc : D.calls < 1000000) (hf : D.fuse = 0) (hdn : D.down = false) (hL : first D.blocks ≤ A.last ∧ A.last < D.blocks) (hx : A.next D.blocks = some i) :
    Calls Tryd.prog 62 #[ptr a, .slice s len cap] w (Put lo d (n + 2) m D a u k A i l w) := by
  obtain ⟨K, hK, hiK, hfree, hprev⟩ := next_some hx
  obtain ⟨i1, i2⟩ := spot_in (b := D.blocks) (last := A.last) (k := K) h.b1
  rw [← hiK] at i1 i2
  have hll := hl.len
  have hb2 := h.b2
  have hp := datas_pos h.b1
  have b0 := (Below.refl w.heap.size w).alloc (Nat.le_refl _) (.cells #[.int .i64 0, .int .u32 0] 32)
  have H0 := hid (h.below b0)
  have hl0 := hl.below b0
  have r0 : cells2 w.heap.size (.int .i64 0) (.int .u32 0) (w.alloc (.cells #[.int .i64 0, .int .u32 0] 32)) := heap_alloc_new _ _
  have OLD := hid h.old
  obtain ⟨c0, c1, c2, c3, c4, c5, f4, f5⟩ := (h.below b0).c
  have hla : len ≤ 256 := hlen
  have HX := hid hx
  clear h hl hx
  go_enter Tryd.func62, Tryd.ntmps62
  go_wp2_with fail
  refine (datas_w D.blocks _ hb2).mono ?_
  rintro e w1 ⟨rfl, b1⟩
  have H1 := hid (H0.out.below b1)
  go_wp2_with fail
  refine (first_w lo d n m D a u k A _ H1.out).mono ?_
  rintro e w2 ⟨rfl, b2⟩
  have B2 := b1.trans (b2.mono b1.size)
  have H2 := hid (H0.out.below B2)
  have L2 := hid (hl0.below B2)
  have r2 : cells2 w.heap.size (.int .i64 0) (.int .u32 0) w2 := (B2.block _ (by simp)).trans r0
  have T2 := hid (b0.trans (B2.mono (by simp)))
  obtain ⟨c0, c1, c2, c3, c4, c5, f4, f5⟩ := H2.out.c
  have R2 := hid r2
  clear H0 H1 b1 b2 B2 r0 r2 b0 hl0
  have hN : datas D.blocks ≤ 6000 := by omega
  have hF : first D.blocks ≤ 6000 := by omega
  have hdat : ∀ j : Nat, j ≤ 6000 → ((A.last : Int) - (first D.blocks : Int) + 1 + (j : Int)).tmod (datas D.blocks : Int) = (((A.last - first D.blocks + 1 + j) % datas D.blocks : Nat) : Int) := fun j hj => by
    rw [show (A.last : Int) - (first D.blocks : Int) + 1 + (j : Int) = ((A.last - first D.blocks + 1 + j : Nat) : Int) by omega]
    rfl
  have HD := hid hdat
  have HP := hid hprev
  clear hdat hprev
  go_wp2_with fail
  go_loopw [25] (fun iv wr => ∃ j : Nat, j ≤ K ∧ iv = .int .i64 (j : Int) ∧ wr = w2) (fun iv _ => K + 1 - (intOf iv).toNat)
  case atStart => exact ⟨0, by omega, rfl, rfl⟩
  case round =>
    obtain ⟨j, hj, rfl, rfl⟩ := hrel
    have hjd : j < datas D.blocks := by omega
    have hsp := HD.out j (by omega)
    obtain ⟨s1, s2⟩ := spot_in (b := D.blocks) (last := A.last) (k := j) H2.out.b1
    have hfr := free_w lo d n m D a u k A (spot D.blocks A.last j : Nat) wr H2.out (fits_nat (by omega))
    have hse : (first D.blocks : Int) + (((A.last - first D.blocks + 1 + j) % datas D.blocks : Nat) : Int) = ((spot D.blocks A.last j : Nat) : Int) := by unfold spot; omega
    have hmo := Nat.mod_lt (A.last - first D.blocks + 1 + j) hp.1
    generalize (A.last - first D.blocks + 1 + j) % datas D.blocks = y at *
    by_cases hlt : j < K
    · rw [HP.out j hlt] at hfr
      generalize spot D.blocks A.last j = z at *
      go_wp2_with fail
      refine hfr.mono ?_
      rintro e w' ⟨rfl, rfl⟩
      go_wp2_with fail
      go_roundw
      case rel => exact ⟨j + 1, by omega, by go_num, trivial⟩
      case measure => simp [intOf]; omega
    · obtain rfl : j = K := by omega
      rw [← hiK] at hfr hse
      rw [hfree] at hfr
      have hlay := lay_w lo d n m D a u k A i s len cap l wr H2.out L2.out hlb hlen i2 hn hc hf hdn
      clear s1 s2 hiK
      go_wp2_with fail
      refine hfr.mono ?_
      rintro e w' ⟨rfl, rfl⟩
      go_wp2_with fail
      refine hlay.mono ?_
      rintro e w3 ⟨rfl, A3, T3⟩
      have RO : w.heap.size ∉ aown d m a u k := fun e => by have := OLD.out _ e; omega
      have r3 : cells2 w.heap.size (.int .i64 0) (.int .u32 0) w3 := T3.cells R2.out RO
      have b4 := (Below.refl w3.heap.size w3).alloc (Nat.le_refl _) (.cells #[.int .i64 i, .int .u32 (Crc.sum (Crc.pad l) : Nat)] 32)
      have r4 : cells2 w.heap.size (.int .i64 0) (.int .u32 0) (w3.alloc (.cells #[.int .i64 i, .int .u32 (Crc.sum (Crc.pad l) : Nat)] 32)) := (b4.block _ (Array.getElem?_eq_some_iff.1 r3).1).trans r3
      have A4 := A3.below b4
      have T4 := hid ((Turn.of_below T2.out).then (T3.then (Turn.of_below b4)))
      obtain ⟨y0, y1⟩ := new2 w3 (.int .i64 i) (.int .u32 (Crc.sum (Crc.pad l) : Nat)) 32
      obtain ⟨c0, c1, c2, c3, c4, c5, f4, f5⟩ := A4.c
      have z3 : w.heap.size ≠ w3.heap.size := by have := (Array.getElem?_eq_some_iff.1 r3).1; omega
      have HA4 := hid A4
      have R4 := hid r4
      obtain ⟨x0, x1, f0, f1⟩ := RootW.blk_c r4
      clear hlay A3 T3 r3 b4 A4 hfr r4
      go_wp2_with fail
      obtain ⟨A5, t5⟩ := HA4.out.setL i
      have r5 : cells2 w.heap.size (.int .i64 0) (.int .u32 0) ((w3.alloc (.cells #[.int .i64 i, .int .u32 (Crc.sum (Crc.pad l) : Nat)] 32)).setCell ⟨a, 5, none⟩ (.int .i64 i)) := t5.cells R4.out (fun e => RO (by rw [List.mem_singleton.1 e]; simp))
      have q := turn2 ((w3.alloc (.cells #[.int .i64 i, .int .u32 (Crc.sum (Crc.pad l) : Nat)] 32)).setCell ⟨a, 5, none⟩ (.int .i64 i)) w.heap.size (.int .i64 i) (.int .u32 (Crc.sum (Crc.pad l) : Nat))
      refine bodyPost_ret (v := .tuple #[.agg #[.int .i64 i, .int .u32 (Crc.sum (Crc.pad l) : Nat)], .nilIface]) (by simp [results, Tryd.results62, go_sem, (RootW.blk_c r5).1, (RootW.blk_c r5).2.1]) rfl ⟨rfl, A5.away q (fun x hx e => RO (by rw [← List.mem_singleton.1 hx]; exact e)) (fun x hx => ?_), (T4.out.then (t5.mono fun x hx => by rw [List.mem_singleton.1 hx]; simp)).trans q fun x hx => .inr (by rw [List.mem_singleton.1 hx]; exact Nat.le_refl _)⟩
      rw [List.mem_singleton.1 hx]
      exact .inr ⟨_, (RootW.blk_c r5).1, fun z e => by cases e⟩
end Go.Proofs.YtagbnacffiagcaaDoor.BlobW

namespace Go.Proofs.YtagbnacffiagcaaDoor.BlobW
open Go Go.RowKit Go.Maps Go.Proofs.YtagbnacffiagcaaDoor.Mem Go.Proofs.YtagbnacffiagcaaDoor.MapsW Go.Proofs.YtagbnacffiagcaaDoor.SeeW Go.Proofs.YtagbnacffiagcaaDoor.DevG
set_option linter.unusedVariables false
set_option maxRecDepth 100000

/-- a block not in use any more, held -/
def Ar.drop (A : Ar) (i : Int) : Ar := { A with used := upd A.used i false, nu := A.nu - 1, held := upd A.held i true, nh := if A.held i then A.nh else A.nh + 1 }
theorem drop_no (lo d n : Nat) (m : Mp) (D : Dv) (a u k : Nat) (A : Ar) (i s : Int) (w : World) (h : AAt w lo d n m D a u k A) (hi : Fits i) (hU : A.used i = false) :
    Calls Tryd.prog 67 #[ptr a, .agg #[.int .i64 i, .int .u32 s]] w fun e w' => e = .returned (.bool false) ∧ Below w.heap.size w w' := by
  have b0 := (Below.refl w.heap.size w).alloc (Nat.le_refl _) (.cells #[.int .i64 i, .int .u32 s] 32)
  obtain ⟨x0, x1⟩ := new2 w (.int .i64 i) (.int .u32 s) 32
  obtain ⟨c0, c1, c2, c3, c4, c5, f4, f5⟩ := (h.below b0).c
  have lu := (h.below b0.drew).mu.look0 hi hU
  clear h
  go_enter Tryd.func67, Tryd.ntmps67
  go_wp2
  go_region
  all_goals
    go_wp2
    go_ret
    exact ⟨rfl, b0.drew⟩
set_option maxHeartbeats 1600000 in
theorem drop_w (lo d n : Nat) (m : Mp) (D : Dv) (a u k : Nat) (A : Ar) (i s : Int) (w : World) (h : AAt w lo d n m D a u k A) (hi : Fits i) (hU : A.used i = true) (hn : n < 90000) :
    Calls Tryd.prog 67 #[ptr a, .agg #[.int .i64 i, .int .u32 s]] w fun e w' => e = .returned (.bool true) ∧ AAt w' lo d (n + 1) m D a u k (A.drop i) ∧ Turn (aown d m a u k) w w' := by
  have b0 := (Below.refl w.heap.size w).alloc (Nat.le_refl _) (.cells #[.int .i64 i, .int .u32 s] 32)
  obtain ⟨x0, x1⟩ := new2 w (.int .i64 i) (.int .u32 s) 32
  have H0 := hid (h.below b0)
  have OLD := hid h.old
  obtain ⟨c0, c1, c2, c3, c4, c5, f4, f5⟩ := H0.out.c
  have lu := (h.below b0.drew).mu.look1 hi hU
  clear h
  go_enter Tryd.func67, Tryd.ntmps67
  go_wp2
  go_region
  all_goals
    go_upto_region 3 with fail
    have B1 := b0.drew
    have H1 := hid (H0.out.below (Below.refl _ _).drew)
    have x0' : cells2 w.heap.size (.int .i64 i) (.int .u32 s) (w.alloc (.cells #[.int .i64 i, .int .u32 s] 32)).drew := heap_alloc_new _ _
    clear lu c0 c1 c2 c3 c4 c5 f4 f5 H0 b0 x0 x1
    generalize (w.alloc (.cells #[.int .i64 i, .int .u32 s] 32)).drew = w1 at *
    obtain ⟨c0, c1, c2, c3, c4, c5, f4, f5⟩ := H1.out.c
    obtain ⟨x0, x1, _, _⟩ := RootW.blk_c x0'
    go_still_tail 6, (by kernel_rfl)
    change wpList _ _ _ _ _ w1.drew
    refine wpList_delNum _ rfl _ _ rfl (H1.out.below (Below.refl _ _).drew).mu hi rfl rfl ?_
    intro w2 hr2 hg2
    obtain ⟨A2, t2⟩ := (H1.out.below (Below.refl _ _).drew).setU hg2 hr2 (Nat.le_refl _)
    have x1' : cells2 w.heap.size (.int .i64 i) (.int .u32 s) w1.drew := x0'
    have x2 : cells2 w.heap.size (.int .i64 i) (.int .u32 s) w2 := t2.cells x1' (fun e => by have := OLD.out u (by simp); rw [List.mem_singleton.1 e] at this; omega)
    have T2 := hid ((Turn.of_below (S := aown d m a u k) B1.drew).then (t2.mono fun x hx => by rw [List.mem_singleton.1 hx]; simp))
    obtain ⟨x0, x1, _, _⟩ := RootW.blk_c x2
    have HA2 := hid A2
    clear c0 c1 c2 c3 c4 c5 f4 f5 hr2 hg2 t2 A2 x2 x1' B1 H1 x0'
    obtain ⟨c0, c1, c2, c3, c4, c5, f4, f5⟩ := HA2.out.c
    go_upto_region 4 with fail
    go_still_tail 6, (by kernel_rfl)
    change wpList _ _ _ _ _ w2.drew
    refine wpList_putNum _ rfl _ _ _ rfl (HA2.out.below (Below.refl _ _).drew).mh (by omega) hi rfl rfl rfl ?_
    intro w3 hr3 hg3
    obtain ⟨A3, t3⟩ := (HA2.out.below (Below.refl _ _).drew).setK hg3 hr3 (Nat.le_succ _)
    have T3 := (T2.out.then (Turn.of_below (Below.refl _ _).drew)).then (t3.mono (S' := aown d m a u k) fun x hx => by rw [List.mem_singleton.1 hx]; simp)
    rw [hU, if_pos rfl] at A3
    have HA3 := hid A3
    clear c0 c1 c2 c3 c4 c5 f4 f5 hr3 hg3 t3 A3 x0 x1 HA2
    go_wp2
    go_ret
    exact ⟨rfl, HA3.out, T3⟩
theorem done_w (lo d n : Nat) (m : Mp) (D : Dv) (a u k : Nat) (A : Ar) (w : World) (h : AAt w lo d n m D a u k A) :
    Calls Tryd.prog 66 #[ptr a] w fun e w' => e = .returned (.tuple #[]) ∧ AAt w' lo d n m D a u w.heap.size { A with held := fun _ => false, nh := 0 } ∧ Turn [a] w w' := by
  have b0 := (Below.refl w.heap.size w).alloc (Nat.le_refl _) (.map #[] 0)
  obtain ⟨c0, c1, c2, c3, c4, c5, f4, f5⟩ := (h.below b0).c
  have H := hid h.setM
  have hmm := @run_makeMap Tryd.prog
  clear h
  go_enter Tryd.func66, Tryd.ntmps66
  go_wp2
  refine bodyPost_end (v := .tuple #[]) (by simp [results, Tryd.results66, go_sem]) rfl ?_
  exact ⟨rfl, H.out.1, H.out.2⟩
theorem AAt.lens {w : World} {lo d n : Nat} {m : Mp} {D : Dv} {a u k : Nat} {A : Ar} (h : AAt w lo d n m D a u k A) :
    w.cell? ⟨a, 1, none⟩ = some (.int .i64 D.blocks) ∧ w.cell? ⟨a, 2, none⟩ = some (.int .i64 (GeoW.half D.blocks)) ∧ w.cell? ⟨a, 3, none⟩ = some (.map (some u)) ∧ w.cell? ⟨a, 4, none⟩ = some (.map (some k)) ∧
    (Builtin.len_ #[146] 3 #[.map (some u)]).run Tryd.prog w = .ok (.int .i64 (A.nu : Nat)) w ∧ (Builtin.len_ #[146] 3 #[.map (some k)]).run Tryd.prog w = .ok (.int .i64 (A.nh : Nat)) w := by
  obtain ⟨c0, c1, c2, c3, c4, c5, f4, f5⟩ := h.c
  obtain ⟨E, hE, e1⟩ := h.mu.len
  obtain ⟨F, hF, e2⟩ := h.mh.len
  have l1 := hE.len Tryd.underlying146 3
  have l2 := hF.len Tryd.underlying146 3
  rw [e1] at l1
  rw [e2] at l2
  exact ⟨c1, c2, c3, c4, l1, l2⟩
theorem left_w (lo d n : Nat) (m : Mp) (D : Dv) (a u k : Nat) (A : Ar) (w : World) (h : AAt w lo d n m D a u k A) (h1 : A.nu ≤ 100000) (h2 : A.nh ≤ 100000) :
    Calls Tryd.prog 60 #[ptr a] w fun e w' => e = .returned (.int .i64 ((datas D.blocks : Nat) - (A.nu : Int) - (A.nh : Int))) ∧ Below w.heap.size w w' := by
  obtain ⟨c0, c1, c2, c3, c4, c5, f4, f5⟩ := h.c
  have hp := datas_pos h.b1
  have hb2 := h.b2
  have hd := fun w => datas_w D.blocks w h.b2
  have H := hid h
  clear h
  go_enter Tryd.func60, Tryd.ntmps60
  go_wp2_with fail
  have w1 : IntKind.i64.wrap ((datas D.blocks : Int) - (A.nu : Int)) = (datas D.blocks : Int) - (A.nu : Int) := by rw [IntKind.wrap_i64]; omega
  have w2 : IntKind.i64.wrap ((datas D.blocks : Int) - (A.nu : Int) - (A.nh : Int)) = (datas D.blocks : Int) - (A.nu : Int) - (A.nh : Int) := by rw [IntKind.wrap_i64]; omega
  go_region_held3 (fun w' => w'.cell? ⟨a, 1, none⟩ = some (.int .i64 D.blocks) ∧ w'.cell? ⟨a, 2, none⟩ = some (.int .i64 (GeoW.half D.blocks)) ∧ w'.cell? ⟨a, 3, none⟩ = some (.map (some u)) ∧ w'.cell? ⟨a, 4, none⟩ = some (.map (some k)) ∧
    (Builtin.len_ #[146] 3 #[.map (some u)]).run Tryd.prog w' = .ok (.int .i64 (A.nu : Nat)) w' ∧ (Builtin.len_ #[146] 3 #[.map (some k)]).run Tryd.prog w' = .ok (.int .i64 (A.nh : Nat)) w')
    (first | exact H.out.lens | exact (H.out.below (Below.refl _ _).drew).lens | exact ((H.out.below (Below.refl _ _).drew).below b3).lens | go_keep)
    ((go_at_call 104; refine (hd _).mono ?_; rintro e w3 ⟨rfl, b3⟩))
  go_wp2
  go_ret
  exact ⟨rfl, (Below.drew (Below.refl w.heap.size w)).trans b3⟩
end Go.Proofs.YtagbnacffiagcaaDoor.BlobW

namespace Go.Proofs.YtagbnacffiagcaaDoor.MapsW
open Go Go.RowKit Go.Maps Go.Sort Go.Shelf Go.Proofs Go.Proofs.YtagbnacffiagcaaDoor.Mem
set_option linter.unusedVariables false
set_option maxRecDepth 100000

theorem keys_w (mb : Option Nat) (w : World) : Calls Tryd.prog 99 #[.map mb] w fun e w' => e = .returned (.func (.func 120) #[] #[.pointer (some ⟨w.heap.size, 0, none⟩)]) ∧ w' = w.alloc (.cells #[.map mb] 120) :=
  (callsIn_wide (n := 5)).1 (AnyZI.keys_in Tryd.keysA Fence.wide 5 trivial rfl mb w)
theorem sorts_in (m : Nat) : AnyZI.SortsIn Tryd.prog Tryd.sortedA_ren Fence.wide m :=
  ⟨fun blk off cap ss W hH hblk hsz => callsIn_wide.2 (AnyM.slices_Sort_int Tryd.sortA blk off cap ss W hH hblk hsz),
   fun p cap W => callsIn_wide.2 (AnyM.slices_Sort_int_none Tryd.sortA p cap W)⟩
theorem sorted_w {H : Type} (b nn Bm : Nat) (D0 : DataW H) (R : Value → Option (DataW H × List MemPlace)) (w : World) (hBm : Bm < w.heap.size) (hm : w.cell? ⟨Bm, 0, none⟩ = some (.map (some b))) (hown : w.ownsMap Tryd.prog 3 R b nn D0) (hmax : Maps.size D0 ≤ 1000000) :
    Calls Tryd.prog 98 #[.func (.func 120) #[] #[.pointer (some ⟨Bm, 0, none⟩)]] w fun e w' => ∃ (v : Value) (ss : List Int), e = .returned v ∧ ss.Perm (intKeys D0) ∧
      w'.ownsRow w.heap.size 3 1 v ss.length ((ss.mergeSort (fun x y => decide (x ≤ y))).map encZ) ∧ (v = .slice none 0 0 ↔ ss = []) ∧ Below w.heap.size w w' := by
  have hseq : SeqGives Fence.wide 2 Tryd.prog 120 #[.pointer (some ⟨Bm, 0, none⟩)] encZ (fun ss => ss.Perm (intKeys D0)) (Maps.size D0) w :=
    AnyZI.keys_gives (ρ := Tryd.keysA_ren) { Tryd.keysA with } Fence.wide _ trivial rfl (by omega) Bm b nn D0 _ hBm hm hown
  have cS := AnyZI.sorted_in Tryd.sortedA Fence.wide 5 trivial trivial trivial trivial rfl (by omega) (sorts_in _) (enters_of Tryd.func119 (by kernel_rfl) rfl) 120 #[.pointer (some ⟨Bm, 0, none⟩)] trivial (enters_of Tryd.func120 (by kernel_rfl) rfl) _ _ (by unfold maxLen; omega) (by omega) _ hseq
  exact callsIn_wide.1 cS
/-- what a map of rows has keys at: rising -/
structure Keys (F : Int → Option (List Nat)) (ks : List Int) : Prop where
  rise : ks.Pairwise (· < ·)
  mem : ∀ i, i ∈ ks ↔ (F i).isSome = true
  fit : ∀ i ∈ ks, Fits i
theorem intKeys_is {H : Type} {w : World} {b n : Nat} {D : DataW H} {R : Value → Option (DataW H × List MemPlace)} (h : w.ownsMap Tryd.prog 3 R b n D) : (intKeys D).Nodup ∧ ∀ x, x ∈ intKeys D ↔ Maps.has D (.int .i64 x) = true := by
  obtain ⟨es, rfl, hpw, _⟩ := h.entries law
  obtain ⟨es', hD', hko⟩ := h.keysOf
  obtain rfl : es = es' := by simpa using hD'
  have hk : ∀ p ∈ es, ∃ x, p.1 = .int .i64 x := fun p hp => by
    obtain ⟨v, hv⟩ := hko p hp
    obtain ⟨x, _, hx, _⟩ := Maps.keyOf_i64 Tryd.underlying3 hv
    exact ⟨x, hx⟩
  constructor
  · show (es.map fun p => Go.intOf p.1).Nodup
    refine List.pairwise_map.2 (hpw.imp_of_mem fun {p q} hp' hq' hne e => hne ?_)
    obtain ⟨a, ha⟩ := hk p hp'
    obtain ⟨b, hb⟩ := hk q hq'
    rw [ha, hb] at e ⊢
    exact congrArg _ e
  · intro x
    rw [has_eq, List.any_eq_true]
    show x ∈ es.map (fun p => Go.intOf p.1) ↔ _
    rw [List.mem_map]
    constructor
    · rintro ⟨p, hp', rfl⟩
      obtain ⟨a, ha⟩ := hk p hp'
      exact ⟨p, hp', by rw [ha]; simp [Lit.sameKey, Go.intOf]⟩
    · rintro ⟨p, hp', hs⟩
      obtain ⟨a, ha⟩ := hk p hp'
      rw [ha] at hs
      exact ⟨p, hp', by rw [ha]; simpa [Lit.sameKey, Go.intOf] using hs⟩
/-- slices.Sorted of a map's keys -/
theorem keys_sorted (b n Bm base np : Nat) (F : Int → Option (List Nat)) (w : World) (hBm : Bm < w.heap.size) (hm : w.cell? ⟨Bm, 0, none⟩ = some (.map (some b))) (h : RowMap w base b n F np) (hnp : np ≤ 1000000) :
    Calls Tryd.prog 98 #[.func (.func 120) #[] #[.pointer (some ⟨Bm, 0, none⟩)]] w fun e w' => ∃ (v : Value) (ks : List Int), e = .returned v ∧ Keys F ks ∧ ks.length = np ∧
      w'.ownsRow w.heap.size 3 1 v ks.length (ks.map fun z => .int .i64 z) ∧ Below w.heap.size w w' := by
  obtain ⟨D, h1, h2, h3⟩ := h
  obtain ⟨k1, k2⟩ := intKeys_is h1
  refine (sorted_w b n Bm D rowR w hBm hm h1 (by omega)).mono ?_
  rintro e w' ⟨v, ss, rfl, hp, ho, _, hb⟩
  have hle : ∀ a b c : Int, decide (a ≤ b) = true → decide (b ≤ c) = true → decide (a ≤ c) = true := fun a b c x y => by
    simp only [decide_eq_true_eq] at *; omega
  have hto : ∀ a b : Int, (decide (a ≤ b) || decide (b ≤ a)) = true := fun a b => by
    simp only [Bool.or_eq_true, decide_eq_true_eq]; omega
  have hs := List.pairwise_mergeSort hle hto ss
  have hpm := List.mergeSort_perm ss (fun x y => decide (x ≤ y))
  have hnd : (ss.mergeSort fun x y => decide (x ≤ y)).Nodup := (hpm.trans hp).nodup_iff.2 k1
  refine ⟨v, ss.mergeSort (fun x y => decide (x ≤ y)), rfl, ⟨?_, fun i => ?_, fun i hi => int_of (intKeys_wf h1 Tryd.underlying3 i ((hpm.trans hp).mem_iff.1 hi))⟩, ?_, ?_, hb⟩
  · refine (hs.and hnd).imp fun {a b} q => ?_
    have := q.1
    simp only [decide_eq_true_eq] at this
    have := q.2
    omega
  · rw [(hpm.trans hp).mem_iff, k2]
    have := h3 i
    cases hF : F i with
    | none => rw [hF] at this; rw [this]; rfl
    | some l => rw [hF] at this; rw [this.1]; rfl
  · rw [hpm.length_eq, hp.length_eq, ← h2]
    obtain ⟨es, hD, _⟩ := h1.tidy law
    rw [hD]; simp [intKeys, Maps.size]
  · rw [hpm.length_eq]
    exact ho
end Go.Proofs.YtagbnacffiagcaaDoor.MapsW

namespace Go.Proofs.YtagbnacffiagcaaDoor.MapsW
open Go Go.RowKit Go.Maps Go.Sort Go.Shelf Go.Proofs Go.Proofs.YtagbnacffiagcaaDoor.Mem
set_option linter.unusedVariables false
set_option maxRecDepth 100000

theorem nkeys_w (mb : Option Nat) (w : World) : Calls Tryd.prog 105 #[.map mb] w fun e w' => e = .returned (.func (.func 121) #[] #[.pointer (some ⟨w.heap.size, 0, none⟩)]) ∧ w' = w.alloc (.cells #[.map mb] 146) :=
  (callsIn_wide (n := 5)).1 (AnyZI.keys_in Tryd.keysN Fence.wide 5 trivial rfl mb w)
theorem nsorted_w {H : Type} (b nn Bm : Nat) (D0 : DataW H) (R : Value → Option (DataW H × List MemPlace)) (w : World) (hBm : Bm < w.heap.size) (hm : w.cell? ⟨Bm, 0, none⟩ = some (.map (some b))) (hown : w.ownsMap Tryd.prog 3 R b nn D0) (hmax : Maps.size D0 ≤ 1000000) :
    Calls Tryd.prog 98 #[.func (.func 121) #[] #[.pointer (some ⟨Bm, 0, none⟩)]] w fun e w' => ∃ (v : Value) (ss : List Int), e = .returned v ∧ ss.Perm (intKeys D0) ∧
      w'.ownsRow w.heap.size 3 1 v ss.length ((ss.mergeSort (fun x y => decide (x ≤ y))).map encZ) ∧ (v = .slice none 0 0 ↔ ss = []) ∧ Below w.heap.size w w' := by
  have hseq : SeqGives Fence.wide 2 Tryd.prog 121 #[.pointer (some ⟨Bm, 0, none⟩)] encZ (fun ss => ss.Perm (intKeys D0)) (Maps.size D0) w :=
    AnyZI.keys_gives (ρ := Tryd.keysN_ren) { Tryd.keysN with } Fence.wide _ trivial rfl (by omega) Bm b nn D0 _ hBm hm hown
  have cS := AnyZI.sorted_in Tryd.sortedA Fence.wide 5 trivial trivial trivial trivial rfl (by omega) (sorts_in _) (enters_of Tryd.func119 (by kernel_rfl) rfl) 121 #[.pointer (some ⟨Bm, 0, none⟩)] trivial (enters_of Tryd.func121 (by kernel_rfl) rfl) _ _ (by unfold maxLen; omega) (by omega) _ hseq
  exact callsIn_wide.1 cS
/-- what a map of ints has keys at: rising -/
structure NKeys (F : Int → Bool) (ks : List Int) : Prop where
  rise : ks.Pairwise (· < ·)
  mem : ∀ i, i ∈ ks ↔ F i = true
  fit : ∀ i ∈ ks, Fits i
/-- slices.Sorted of a map's keys -/
theorem nkeys_sorted (b n Bm np : Nat) (F : Int → Bool) (w : World) (hBm : Bm < w.heap.size) (hm : w.cell? ⟨Bm, 0, none⟩ = some (.map (some b))) (h : NumMap w b n F np) (hnp : np ≤ 1000000) :
    Calls Tryd.prog 98 #[.func (.func 121) #[] #[.pointer (some ⟨Bm, 0, none⟩)]] w fun e w' => ∃ (v : Value) (ks : List Int), e = .returned v ∧ NKeys F ks ∧ ks.length = np ∧
      w'.ownsRow w.heap.size 3 1 v ks.length (ks.map fun z => .int .i64 z) ∧ Below w.heap.size w w' := by
  obtain ⟨D, h1, h2, h3⟩ := h
  obtain ⟨k1, k2⟩ := intKeys_is h1
  refine (nsorted_w b n Bm D _ w hBm hm h1 (by omega)).mono ?_
  rintro e w' ⟨v, ss, rfl, hp, ho, _, hb⟩
  have hle : ∀ a b c : Int, decide (a ≤ b) = true → decide (b ≤ c) = true → decide (a ≤ c) = true := fun a b c x y => by
    simp only [decide_eq_true_eq] at *; omega
  have hto : ∀ a b : Int, (decide (a ≤ b) || decide (b ≤ a)) = true := fun a b => by
    simp only [Bool.or_eq_true, decide_eq_true_eq]; omega
  have hs := List.pairwise_mergeSort hle hto ss
  have hpm := List.mergeSort_perm ss (fun x y => decide (x ≤ y))
  have hnd : (ss.mergeSort fun x y => decide (x ≤ y)).Nodup := (hpm.trans hp).nodup_iff.2 k1
  refine ⟨v, ss.mergeSort (fun x y => decide (x ≤ y)), rfl, ⟨?_, fun i => ?_, fun i hi => int_of (intKeys_wf h1 Tryd.underlying3 i ((hpm.trans hp).mem_iff.1 hi))⟩, ?_, ?_, hb⟩
  · refine (hs.and hnd).imp fun {a b} q => ?_
    have := q.1
    simp only [decide_eq_true_eq] at this
    have := q.2
    omega
  · rw [(hpm.trans hp).mem_iff, k2, (h3 i).2]
  · rw [hpm.length_eq, hp.length_eq, ← h2]
    obtain ⟨es, hD, _⟩ := h1.tidy law
    rw [hD]; simp [intKeys, Maps.size]
  · rw [hpm.length_eq]
    exact ho
end Go.Proofs.YtagbnacffiagcaaDoor.MapsW

namespace Go.Proofs.YtagbnacffiagcaaDoor.Ints
open Go Go.RowKit Go.Proofs.YtagbnacffiagcaaDoor.Mem
set_option linter.unusedVariables false
set_option maxRecDepth 100000

def ints (zs : List Int) : List Value := zs.map fun z => .int .i64 z
/-- a slice of integers -/
def Is (w : World) (a : Option Addr) (n cap : Nat) (zs : List Int) : Prop := Row w 1 a n cap (ints zs)
theorem Is.below {w w' : World} {a : Option Addr} {n cap : Nat} {zs : List Int} (h : Is w a n cap zs) (hb : Below w.heap.size w w') : Is w' a n cap zs := Row.below h hb
theorem Is.len {w : World} {a : Option Addr} {n cap : Nat} {zs : List Int} (h : Is w a n cap zs) : zs.length = n := by
  have := h.1; simp [ints] at this; omega
theorem Is.bound {w : World} {a : Option Addr} {n cap : Nat} {zs : List Int} (h : Is w a n cap zs) : n ≤ cap ∧ cap ≤ 9223372036854775807 := by
  have := h.2.2.1; unfold maxLen at this; exact ⟨h.2.1, by omega⟩
theorem Is.at {w : World} {a : Option Addr} {n cap : Nat} {zs : List Int} (h : Is w a n cap zs) {j : Nat} (hj : j < zs.length) :
    ∃ b off, a = some ⟨b, off, none⟩ ∧ w.cell? ⟨b, off + j, none⟩ = some (.int .i64 zs[j]) :=
  h.2.2.2.2 j _ (by simp [ints, hj])
/-- as the row's datum gives them -/
theorem is_of {w : World} {a : Option Addr} {len cap : Nat} {zs : List Int} (h : IsRow .i64 w a len cap zs) :
    ∃ l : List Int, Is w a len cap l ∧ ∀ x ∈ l, (Lit.int .i64 x).wf = true := by
  rcases h with ⟨rfl, rfl, rfl, rfl⟩ | ⟨x, rfl, hl, hm, hz, hc, hw⟩
  · exact ⟨[], ⟨rfl, Nat.le_refl _, Nat.zero_le _, fun _ => rfl, fun j u h => by simp [ints] at h⟩, by simp⟩
  · refine ⟨zs.take len, ⟨?_, hl, hm, fun h => by simp at h, fun j u hj => ?_⟩, ?_⟩
    · simp [ints]; omega
    · have hjl : j < len := by
        have := (List.getElem?_eq_some_iff.1 hj).1
        simp [ints] at this; omega
      have h1 := hc j (by omega)
      obtain ⟨b, off, spot⟩ := x
      have hs : spot = none := by
        have h0 := hc 0 (by omega)
        simpa [Addr.add] using World.cell?_spot h0
      subst hs
      refine ⟨b, off, rfl, ?_⟩
      rw [Addr.add_lit] at h1
      rw [h1]
      have hjz : j < zs.length := by omega
      have hu : u = .int .i64 (zs[j]) := by
        have h2 : (ints (zs.take len))[j]? = some (.int .i64 (zs[j])) := by
          simp [ints, hjl, hjz]
        rw [h2] at hj
        rw [← Option.some.inj hj]
      rw [hu, List.getD_eq_getElem?_getD, List.getElem?_eq_getElem hjz]
      rfl
    · intro y hy
      exact hw y (List.mem_of_mem_take hy)

theorem mem_take_succ {zs : List Int} {k : Nat} (h : k < zs.length) (x : Int) : x ∈ zs.take (k + 1) ↔ x ∈ zs.take k ∨ x = zs[k] := by
  rw [List.take_succ_eq_append_getElem h, List.mem_append, List.mem_singleton]
end Go.Proofs.YtagbnacffiagcaaDoor.Ints

namespace Go.Proofs.YtagbnacffiagcaaDoor.BlobW
open Go Go.RowKit Go.Maps Go.Proofs.YtagbnacffiagcaaDoor.Mem Go.Proofs.YtagbnacffiagcaaDoor.MapsW Go.Proofs.YtagbnacffiagcaaDoor.SeeW Go.Proofs.YtagbnacffiagcaaDoor.DevG Go.Proofs.YtagbnacffiagcaaDoor.Ints
set_option linter.unusedVariables false
set_option maxRecDepth 100000

set_option maxHeartbeats 1600000 in
theorem used_w (lo d n : Nat) (m : Mp) (D : Dv) (a u k : Nat) (A : Ar) (w : World) (h : AAt w lo d n m D a u k A) (hn : A.nu ≤ 100000) :
    Calls Tryd.prog 61 #[ptr a] w fun e w' => ∃ s c ks, e = .returned (.slice s ks.length c) ∧ NKeys A.used ks ∧ ks.length = A.nu ∧ Is w' s ks.length c ks ∧ Below w.heap.size w w' := by
  obtain ⟨c0, c1, c2, c3, c4, c5, f4, f5⟩ := h.c
  have b1 := (Below.refl w.heap.size w).alloc (Nat.le_refl _) (.cells #[.map (some u)] 146)
  have hs := nkeys_sorted u n w.heap.size A.nu A.used (w.alloc (.cells #[.map (some u)] 146)) (by simp) (by simp) (h.below b1).mu (by omega)
  have HB := hid b1
  clear h b1 c0 c1 c2 c4 c5 f4 f5
  go_enter Tryd.func61, Tryd.ntmps61
  go_wp2_with fail
  refine (nkeys_w (some u) w).mono ?_
  rintro e w1 ⟨rfl, rfl⟩
  go_wp2_with fail
  refine hs.mono ?_
  rintro e w2 ⟨v, ks, rfl, hK, hkl, own2, b2⟩
  have B2 := hid (HB.out.trans (b2.mono (by simp)))
  obtain ⟨va, vc, rfl, hvr⟩ := ownsRow_slice own2
  have HK := hid hK
  have HL := hid hkl
  have HV := hid hvr
  clear hs hK own2 hvr b2 hkl
  go_wp2
  go_ret
  exact ⟨va, vc, ks, rfl, HK.out, HL.out, HV.out, B2.out⟩
set_option maxHeartbeats 1600000 in
/-- nothing is below -/
theorem low_none (lo d n : Nat) (m : Mp) (D : Dv) (a u k : Nat) (A : Ar) (s : Option Addr) (len cap : Nat) (b : Int) (w : World) (h : AAt w lo d n m D a u k A) (hlen : len ≤ 256) (hb : b ≤ (first D.blocks : Int)) (hf : Fits b) :
    Calls Tryd.prog 65 #[ptr a, .slice s len cap, .int .i64 b] w fun e w' => e = .returned (.tuple #[.agg #[.int .i64 0, .int .u32 0], .bool false, .nilIface]) ∧ Below w.heap.size w w' := by
  have hw := fun (w' : World) (hb : Below w.heap.size w w') => first_w lo d n m D a u k A w' (h.below hb)
  obtain ⟨c0, c1, c2, c3, c4, c5, f4, f5⟩ := h.c
  have hp := datas_pos h.b1
  have hb2 := h.b2
  have d1 : decide ((256 : Int) < (len : Int)) = false := decide_eq_false (by omega)
  have hfb : first D.blocks ≤ D.blocks := by unfold first; omega
  go_enter Tryd.func65, Tryd.ntmps65
  have b1 := (Below.refl w.heap.size w).alloc (Nat.le_refl _) (.cells #[.int .i64 0, .int .u32 0] 32)
  have r1 := heap_alloc_new w (.cells #[.int .i64 0, .int .u32 0] 32)
  have H1 := hid (h.below b1)
  have hw1 := hw _ b1
  have HB1 := hid b1
  have HZ := hid (show (w.alloc (.cells #[.int .i64 0, .int .u32 0] 32)).heap.size = w.heap.size + 1 by simp)
  clear h hw c0 c1 c2 c3 c4 c5 f4 f5 b1
  go_wp2_with fail
  refine hw1.mono ?_
  rintro e w2 ⟨rfl, b2⟩
  have H2 := H1.out.below b2
  have r2 := (b2.block w.heap.size (by rw [HZ.out]; omega)).trans r1
  have B2 := hid (HB1.out.trans (b2.mono HB1.out.size))
  obtain ⟨c0, c1, c2, c3, c4, c5, f4, f5⟩ := H2.c
  obtain ⟨x0, x1, y0, y1⟩ := RootW.blk_c r2
  have hm : ∀ x : Int, decide ((first D.blocks : Int) < min b (D.blocks : Int)) = false := fun _ => decide_eq_false (by omega)
  have HM := hid hm
  have hF := fun (u v : Value) => (B2.out.setCell (p := ⟨w.heap.size, 0, none⟩) (Nat.le_refl _) u).setCell (p := ⟨w.heap.size, 1, none⟩) (Nat.le_refl _) v
  have HF := hid hF
  clear hw1 b2 H2 r1 r2 H1 hm hF
  go_wp2_with fail
  go_loopw [9] (fun iv wr => iv = .int .i64 (first D.blocks : Nat) ∧ wr = w2) (fun iv _ => 0)
  case atStart => exact ⟨rfl, rfl⟩
  case round =>
    obtain ⟨rfl, rfl⟩ := hrel
    have hm := HM.out 0
    go_wp2_with fail
    refine bodyPost_ret (v := .tuple #[.agg #[.int .i64 0, .int .u32 0], .bool false, .nilIface]) (by simp [results, Tryd.results65, go_sem, x0, x1]) rfl ⟨rfl, HF.out _ _⟩
end Go.Proofs.YtagbnacffiagcaaDoor.BlobW

namespace Go.Proofs.YtagbnacffiagcaaDoor.BlobW
open Go Go.RowKit Go.Maps Go.Proofs.YtagbnacffiagcaaDoor.Mem Go.Proofs.YtagbnacffiagcaaDoor.MapsW Go.Proofs.YtagbnacffiagcaaDoor.SeeW Go.Proofs.YtagbnacffiagcaaDoor.DevG Go.Proofs.YtagbnacffiagcaaDoor.Ints
set_option linter.unusedVariables false
set_option maxRecDepth 100000

set_option maxHeartbeats 1600000 in
theorem put_over (bs : List Addr) (a : Nat) (s : Option Addr) (len cap : Nat) (w : World) (lo : Nat) (hlen : 256 < len) (hB : Ev w lo bs [2]) :
    Calls Tryd.prog 62 #[ptr a, .slice s len cap] w fun e w' => (∃ x, bs[2]? = some x ∧ e = .returned (.tuple #[.agg #[.int .i64 0, .int .u32 0], ev x])) ∧ Below w.heap.size w w' := by
  have d1 : decide ((256 : Int) < (len : Int)) = true := decide_eq_true (by omega)
  have b0 := (Below.refl w.heap.size w).alloc (Nat.le_refl _) (.cells #[.int .i64 0, .int .u32 0] 32)
  have r0 : cells2 w.heap.size (.int .i64 0) (.int .u32 0) (w.alloc (.cells #[.int .i64 0, .int .u32 0] 32)) := heap_alloc_new _ _
  obtain ⟨x, hx, hX⟩ := hB.get 2 _ (by decide) rfl
  have hX1 := (hX.below b0).1
  have hg : (0 : Nat) < w.heap.size := World.block_lt_of_cell? w _ hX.1
  have hg1 : w.heap.size ≠ (0 : Nat) := by omega
  have hg2 : (0 : Nat) ≠ w.heap.size := by omega
  obtain ⟨x0, x1, f0, f1⟩ := RootW.blk_c r0
  have HB0 := hid b0
  have R0 := hid r0
  clear hlen hX hB r0 b0
  go_enter Tryd.func62, Tryd.ntmps62
  go_wp2_with fail
  go_region
  all_goals
    go_wp2
    refine bodyPost_ret (v := .tuple #[.agg #[.int .i64 0, .int .u32 0], ev x]) (by simp [results, Tryd.results62, go_sem, x0, x1]) rfl (by first | exact ⟨⟨x, hx, rfl⟩, ((HB0.out.setCell (p := ⟨w.heap.size, 0, none⟩) (Nat.le_refl _) _).setCell (p := ⟨w.heap.size, 1, none⟩) (Nat.le_refl _) _).drew⟩ | exact ⟨⟨x, hx, rfl⟩, HB0.out.drew⟩)
set_option maxHeartbeats 1600000 in
theorem low_over (bs : List Addr) (a : Nat) (s : Option Addr) (len cap : Nat) (b : Int) (w : World) (lo : Nat) (hlen : 256 < len) (hB : Ev w lo bs [2]) :
    Calls Tryd.prog 65 #[ptr a, .slice s len cap, .int .i64 b] w fun e w' => (∃ x, bs[2]? = some x ∧ e = .returned (.tuple #[.agg #[.int .i64 0, .int .u32 0], .bool false, ev x])) ∧ Below w.heap.size w w' := by
  have d1 : decide ((256 : Int) < (len : Int)) = true := decide_eq_true (by omega)
  have b0 := (Below.refl w.heap.size w).alloc (Nat.le_refl _) (.cells #[.int .i64 0, .int .u32 0] 32)
  have r0 : cells2 w.heap.size (.int .i64 0) (.int .u32 0) (w.alloc (.cells #[.int .i64 0, .int .u32 0] 32)) := heap_alloc_new _ _
  obtain ⟨x, hx, hX⟩ := hB.get 2 _ (by decide) rfl
  have hX1 := (hX.below b0).1
  have hg : (0 : Nat) < w.heap.size := World.block_lt_of_cell? w _ hX.1
  have hg1 : w.heap.size ≠ (0 : Nat) := by omega
  have hg2 : (0 : Nat) ≠ w.heap.size := by omega
  obtain ⟨x0, x1, f0, f1⟩ := RootW.blk_c r0
  have HB0 := hid b0
  clear hlen hX hB r0 b0
  go_enter Tryd.func65, Tryd.ntmps65
  go_wp2_with fail
  go_region
  all_goals
    go_wp2
    refine bodyPost_ret (v := .tuple #[.agg #[.int .i64 0, .int .u32 0], .bool false, ev x]) (by simp [results, Tryd.results65, go_sem, x0, x1]) rfl (by first | exact ⟨⟨x, hx, rfl⟩, ((HB0.out.setCell (p := ⟨w.heap.size, 0, none⟩) (Nat.le_refl _) _).setCell (p := ⟨w.heap.size, 1, none⟩) (Nat.le_refl _) _).drew⟩ | exact ⟨⟨x, hx, rfl⟩, HB0.out.drew⟩)
def LowYes (lo d n : Nat) (m : Mp) (D : Dv) (a u k : Nat) (A : Ar) (p : Nat) (l : List Nat) (w : World) (e : Ending) (w' : World) : Prop :=
  e = .returned (.tuple #[.agg #[.int .i64 p, .int .u32 (Crc.sum (Crc.pad l) : Nat)], .bool true, .nilIface]) ∧ AAt w' lo d n m (D.put p (Crc.pad l)) a u k (A.use p) ∧ Turn (aown d m a u k) w w'
set_option maxHeartbeats 3200000 in
theorem low_no (lo d n : Nat) (m : Mp) (D : Dv) (a u k : Nat) (A : Ar) (p : Nat) (s : Option Addr) (len cap : Nat) (b : Int) (w : World) (h : AAt w lo d n m D a u k A) (hlen : len ≤ 256) (hb : Fits b)
    (hpb : b ≤ (p : Int)) (hp1 : first D.blocks ≤ p) (hp2 : p < D.blocks) (hpl : ∀ q, first D.blocks ≤ q → q < p → A.free (q : Nat) = false) :
    Calls Tryd.prog 65 #[ptr a, .slice s len cap, .int .i64 b] w fun e w' => e = .returned (.tuple #[.agg #[.int .i64 0, .int .u32 0], .bool false, .nilIface]) ∧ Below w.heap.size w w' := by
  have hw := fun (w' : World) (hb : Below w.heap.size w w') => first_w lo d n m D a u k A w' (h.below hb)
  have hpp := datas_pos h.b1
  have hb2 := h.b2
  have d1 : decide ((256 : Int) < (len : Int)) = false := decide_eq_false (by omega)
  have OLD := hid h.old
  go_enter Tryd.func65, Tryd.ntmps65
  have b1 := (Below.refl w.heap.size w).alloc (Nat.le_refl _) (.cells #[.int .i64 0, .int .u32 0] 32)
  have r1 := heap_alloc_new w (.cells #[.int .i64 0, .int .u32 0] 32)
  have H1 := hid (h.below b1)
  have hw1 := hw _ b1
  have HB1 := hid b1
  have HZ := hid (show (w.alloc (.cells #[.int .i64 0, .int .u32 0] 32)).heap.size = w.heap.size + 1 by simp)
  have HPL := hid hpl
  clear h hw b1 hpl
  go_wp2_with fail
  refine hw1.mono ?_
  rintro e w2 ⟨rfl, b2⟩
  have H2 := hid (H1.out.below b2)
  have r2 := (b2.block w.heap.size (by rw [HZ.out]; omega)).trans r1
  have B2 := hid (HB1.out.trans (b2.mono HB1.out.size))
  have R2 := hid (show cells2 w.heap.size (.int .i64 0) (.int .u32 0) w2 from r2)
  have hfp : first D.blocks ≤ 6000 := by omega
  clear hw1 b2 r1 r2 H1
  go_wp2_with fail
  go_loopw [9] (fun iv wr => ∃ q : Nat, first D.blocks ≤ q ∧ q ≤ p ∧ iv = .int .i64 (q : Int) ∧ wr = w2) (fun iv _ => p + 1 - (intOf iv).toNat)
  case atStart => exact ⟨_, Nat.le_refl _, hp1, rfl, rfl⟩
  case round =>
    obtain ⟨q, hq1, hq2, rfl, rfl⟩ := hrel
    obtain ⟨c0, c1, c2, c3, c4, c5, f4, f5⟩ := H2.out.c
    by_cases hqb : (q : Int) < b
    · have hm : decide ((q : Int) < min b (D.blocks : Int)) = true := decide_eq_true (by omega)
      have hfr := free_w lo d n m D a u k A (q : Nat) wr H2.out (fits_nat (by omega))
      have hlt : q < p := by omega
      rw [HPL.out q hq1 hlt] at hfr
      go_wp2_with fail
      refine hfr.mono ?_
      rintro e w' ⟨rfl, rfl⟩
      go_wp2_with fail
      go_roundw
      case rel => exact ⟨q + 1, by omega, by omega, by go_num, trivial⟩
      case measure => simp [intOf]; omega
    · have hm : decide ((q : Int) < min b (D.blocks : Int)) = false := decide_eq_false (by omega)
      obtain ⟨x0, x1, f0, f1⟩ := RootW.blk_c R2.out
      have hF := fun (u v : Value) => (B2.out.setCell (p := ⟨w.heap.size, 0, none⟩) (Nat.le_refl _) u).setCell (p := ⟨w.heap.size, 1, none⟩) (Nat.le_refl _) v
      have HF := hid hF
      clear hF hqb
      go_wp2_with fail
      refine bodyPost_ret (v := .tuple #[.agg #[.int .i64 0, .int .u32 0], .bool false, .nilIface]) (by simp [results, Tryd.results65, go_sem, x0, x1]) rfl ⟨rfl, HF.out _ _⟩
set_option maxHeartbeats 3200000 in
theorem low_yes (lo d n : Nat) (m : Mp) (D : Dv) (a u k : Nat) (A : Ar) (p : Nat) (s : Option Addr) (len cap : Nat) (l : List Nat) (b : Int) (w : World) (h : AAt w lo d n m D a u k A) (hl : Nums .u8 w s len cap l) (hlb : Crc.Bytes l) (hlen : len ≤ 256) (hn : n < 90000) (hc : D.calls < 1000000) (hf : D.fuse = 0) (hdn : D.down = false) (hb : Fits b)
    (hpb : (p : Int) < b) (hp1 : first D.blocks ≤ p) (hp2 : p < D.blocks) (hpf : A.free (p : Nat) = true) (hpl : ∀ q, first D.blocks ≤ q → q < p → A.free (q : Nat) = false) :
    Calls Tryd.prog 65 #[ptr a, .slice s len cap, .int .i64 b] w (LowYes lo d (n + 2) m D a u k A p l w) := by
  have hw := fun (w' : World) (hb : Below w.heap.size w w') => first_w lo d n m D a u k A w' (h.below hb)
  have hpp := datas_pos h.b1
  have hb2 := h.b2
  have d1 : decide ((256 : Int) < (len : Int)) = false := decide_eq_false (by omega)
  have OLD := hid h.old
  go_enter Tryd.func65, Tryd.ntmps65
  have b1 := (Below.refl w.heap.size w).alloc (Nat.le_refl _) (.cells #[.int .i64 0, .int .u32 0] 32)
  have r1 := heap_alloc_new w (.cells #[.int .i64 0, .int .u32 0] 32)
  have H1 := hid (h.below b1)
  have L1 := hid (hl.below b1)
  have hw1 := hw _ b1
  have HB1 := hid b1
  have HZ := hid (show (w.alloc (.cells #[.int .i64 0, .int .u32 0] 32)).heap.size = w.heap.size + 1 by simp)
  have HPL := hid hpl
  clear h hw b1 hl hpl
  go_wp2_with fail
  refine hw1.mono ?_
  rintro e w2 ⟨rfl, b2⟩
  have H2 := hid (H1.out.below b2)
  have L2 := hid (L1.out.below b2)
  have r2 := (b2.block w.heap.size (by rw [HZ.out]; omega)).trans r1
  have B2 := hid (HB1.out.trans (b2.mono HB1.out.size))
  have R2 := hid (show cells2 w.heap.size (.int .i64 0) (.int .u32 0) w2 from r2)
  have hfp : first D.blocks ≤ 6000 := by omega
  clear hw1 b2 r1 r2 H1 L1
  go_wp2_with fail
  go_loopw [9] (fun iv wr => ∃ q : Nat, first D.blocks ≤ q ∧ q ≤ p ∧ iv = .int .i64 (q : Int) ∧ wr = w2) (fun iv _ => p + 1 - (intOf iv).toNat)
  case atStart => exact ⟨_, Nat.le_refl _, hp1, rfl, rfl⟩
  case round =>
    obtain ⟨q, hq1, hq2, rfl, rfl⟩ := hrel
    obtain ⟨c0, c1, c2, c3, c4, c5, f4, f5⟩ := H2.out.c
    · have hm : decide ((q : Int) < min b (D.blocks : Int)) = true := decide_eq_true (by omega)
      have hfr := free_w lo d n m D a u k A (q : Nat) wr H2.out (fits_nat (by omega))
      by_cases hlt : q < p
      · rw [HPL.out q hq1 hlt] at hfr
        go_wp2_with fail
        refine hfr.mono ?_
        rintro e w' ⟨rfl, rfl⟩
        go_wp2_with fail
        go_roundw
        case rel => exact ⟨q + 1, by omega, by omega, by go_num, trivial⟩
        case measure => simp [intOf]; omega
      · obtain rfl : q = p := by omega
        rw [hpf] at hfr
        have hlay := lay_w lo d n m D a u k A q s len cap l wr H2.out L2.out hlb hlen hp2 hn hc hf hdn
        go_wp2_with fail
        refine hfr.mono ?_
        rintro e w' ⟨rfl, rfl⟩
        go_wp2_with fail
        refine hlay.mono ?_
        rintro e w3 ⟨rfl, A3, T3⟩
        have RO : w.heap.size ∉ aown d m a u k := fun e => by have := OLD.out _ e; omega
        have r3 : cells2 w.heap.size (.int .i64 0) (.int .u32 0) w3 := T3.cells R2.out RO
        have b4 := (Below.refl w3.heap.size w3).alloc (Nat.le_refl _) (.cells #[.int .i64 q, .int .u32 (Crc.sum (Crc.pad l) : Nat)] 32)
        have r4 : cells2 w.heap.size (.int .i64 0) (.int .u32 0) (w3.alloc (.cells #[.int .i64 q, .int .u32 (Crc.sum (Crc.pad l) : Nat)] 32)) := (b4.block _ (Array.getElem?_eq_some_iff.1 r3).1).trans r3
        have A4 := hid (A3.below b4)
        have T4 := hid ((Turn.of_below B2.out).then (T3.then (Turn.of_below b4)))
        obtain ⟨y0, y1⟩ := new2 w3 (.int .i64 q) (.int .u32 (Crc.sum (Crc.pad l) : Nat)) 32
        have z3 : w.heap.size ≠ w3.heap.size := by have := (Array.getElem?_eq_some_iff.1 r3).1; omega
        have R4 := hid r4
        obtain ⟨x0, x1, f0, f1⟩ := RootW.blk_c r4
        clear hlay A3 T3 r3 b4 hfr r4
        go_wp2_with fail
        go_region
        all_goals
          go_wp2
          have q2 := turn2 (w3.alloc (.cells #[.int .i64 q, .int .u32 (Crc.sum (Crc.pad l) : Nat)] 32)) w.heap.size (.int .i64 q) (.int .u32 (Crc.sum (Crc.pad l) : Nat))
          have dr := fun (v : World) => (Below.refl v.heap.size v).drew
          refine bodyPost_ret (v := .tuple #[.agg #[.int .i64 q, .int .u32 (Crc.sum (Crc.pad l) : Nat)], .bool true, .nilIface]) (by simp [results, Tryd.results65, go_sem, x0, x1]) rfl ⟨rfl, (A4.out.away q2 (fun x hx e => RO (by rw [← List.mem_singleton.1 hx]; exact e)) (fun x hx => ?_)).below (dr _), (T4.out.trans q2 fun x hx => .inr (by rw [List.mem_singleton.1 hx]; exact Nat.le_refl _)).then (Turn.of_below (dr _))⟩
          rw [List.mem_singleton.1 hx]
          exact .inr ⟨_, x0, fun z e => by cases e⟩
end Go.Proofs.YtagbnacffiagcaaDoor.BlobW

namespace Go.Proofs.YtagbnacffiagcaaDoor.BlobW
open Go Go.RowKit Go.Maps Go.Proofs.YtagbnacffiagcaaDoor.Mem Go.Proofs.YtagbnacffiagcaaDoor.MapsW Go.Proofs.YtagbnacffiagcaaDoor.DevG Go.Proofs.YtagbnacffiagcaaDoor.RefsW
set_option linter.unusedVariables false
set_option maxRecDepth 100000

theorem own_turn {S : List Nat} {w w' : World} {base : Nat} {e : TypeId} {size : Nat} {v : Value} {n : Nat} {xs : List Value} (h : w.ownsRow base e size v n xs) (T : Turn S w w') (hS : ∀ x ∈ S, x < base ∨ w.heap.size ≤ x) : w'.ownsRow base e size v n xs := by
  rcases h with ⟨h1, h2 | ⟨g, c, cur, e1, hb, hg, r⟩⟩
  · exact ⟨h1, .inl h2⟩
  · refine ⟨h1, .inr ⟨g, c, cur, e1, hb, T.cells hg (fun hm => ?_), r⟩⟩
    have hlt := (Array.getElem?_eq_some_iff.1 hg).1
    rcases hS g hm with q | q <;> omega
theorem own_first {w : World} {base : Nat} {v : Value} {n : Nat} {rs : List (Int × Nat)} (h : OwnRefs w base v n rs) (hn : 0 < n) : ∃ g c z, v = .slice (some ⟨g, 0, none⟩) n c ∧ base ≤ g ∧ g < w.heap.size ∧ w.cell? ⟨g, 0, none⟩ = some (.int .i64 z) := by
  obtain ⟨a, c, rfl, hR⟩ := refs_of h
  obtain ⟨g, rfl⟩ := own_some h hn
  have hl := hR.len
  obtain ⟨b, o, e, h1, _⟩ := hR.at (j := 0) (by omega)
  cases e
  obtain ⟨q1, q2⟩ := h.lt g rfl
  exact ⟨g, c, _, rfl, q1, q2, by simpa using h1⟩
/-- an append to the row leaves the area -/
theorem AAt.grown {w w' : World} {lo d n : Nat} {m : Mp} {D : Dv} {a u k : Nat} {A : Ar} (h : AAt w lo d n m D a u k A) {base : Nat} {v : Value} {r : Nat} {rs : List (Int × Nat)} (own : OwnRefs w base v r rs) (hg : w.grownBy w' v.ownBlock) (hb : ∀ x ∈ aown d m a u k, x < base) (h0 : r = 0 → v = .slice none 0 0) : AAt w' lo d n m D a u k A := by
  rcases Nat.eq_zero_or_pos r with hr | hr
  · rw [h0 hr] at hg
    exact h.away (S := []) (Turn.of_none hg) (by simp) (by simp)
  · obtain ⟨g, c, z, rfl, q1, q2, q3⟩ := own_first own hr
    refine h.away (S := [g]) (Turn.of_grown hg (by simp)) (fun x hx e => ?_) (fun x hx => ?_)
    · have := hb x e
      rw [List.mem_singleton.1 hx] at this
      omega
    · rw [List.mem_singleton.1 hx]
      exact .inr ⟨_, q3, fun y e => by cases e⟩
/-- the row reads on where its block is as it was -/
theorem refs_block {w w' : World} {g n cap : Nat} {rs : List (Int × Nat)} (h : Refs w (some ⟨g, 0, none⟩) n cap rs) (e : w'.heap[g]? = w.heap[g]?) : Refs w' (some ⟨g, 0, none⟩) n cap rs := by
  obtain ⟨h1, h2, h3, h4, h5⟩ := h
  refine ⟨h1, h2, h3, h4, fun j u hj => ?_⟩
  obtain ⟨b, o, he, hc⟩ := h5 j u hj
  refine ⟨b, o, he, ?_⟩
  cases he
  rw [World.cell?_of_block (w := w) e]
  exact hc
end Go.Proofs.YtagbnacffiagcaaDoor.BlobW

namespace Go.Proofs.YtagbnacffiagcaaDoor.BlobW
open Go Go.RowKit Go.Maps Go.Proofs.YtagbnacffiagcaaDoor.Mem Go.Proofs.YtagbnacffiagcaaDoor.MapsW Go.Proofs.YtagbnacffiagcaaDoor.SeeW Go.Proofs.YtagbnacffiagcaaDoor.DevG
set_option linter.unusedVariables false
set_option maxRecDepth 100000

set_option maxHeartbeats 3200000 in
theorem put_full (bs : List Addr) (lo d n : Nat) (m : Mp) (D : Dv) (a u k : Nat) (A : Ar) (s : Option Addr) (len cap : Nat) (l : List Nat) (w : World) (h : AAt w lo d n m D a u k A) (hl : Nums .u8 w s len cap l) (hlen : len ≤ 256) (hL : first D.blocks ≤ A.last ∧ A.last < D.blocks) (hx : A.next D.blocks = none) (hB : Ev w lo bs [4]) :
    Calls Tryd.prog 62 #[ptr a, .slice s len cap] w fun e w' => (∃ x, bs[4]? = some x ∧ e = .returned (.tuple #[.agg #[.int .i64 0, .int .u32 0], ev x])) ∧ Below w.heap.size w w' := by
  have hprev := next_none hx
  have hll := hl.len
  have hb2 := h.b2
  have hp := datas_pos h.b1
  have b0 := (Below.refl w.heap.size w).alloc (Nat.le_refl _) (.cells #[.int .i64 0, .int .u32 0] 32)
  have H0 := hid (h.below b0)
  have hl0 := hl.below b0
  have r0 : cells2 w.heap.size (.int .i64 0) (.int .u32 0) (w.alloc (.cells #[.int .i64 0, .int .u32 0] 32)) := heap_alloc_new _ _
  have OLD := hid h.old
  have HB := hid hB
  obtain ⟨c0, c1, c2, c3, c4, c5, f4, f5⟩ := (h.below b0).c
  have hla : len ≤ 256 := hlen
  clear h hl hx
  go_enter Tryd.func62, Tryd.ntmps62
  go_wp2_with fail
  refine (datas_w D.blocks _ hb2).mono ?_
  rintro e w1 ⟨rfl, b1⟩
  have H1 := hid (H0.out.below b1)
  go_wp2_with fail
  refine (first_w lo d n m D a u k A _ H1.out).mono ?_
  rintro e w2 ⟨rfl, b2⟩
  have B2 := b1.trans (b2.mono b1.size)
  have H2 := hid (H0.out.below B2)
  have L2 := hid (hl0.below B2)
  have r2 : cells2 w.heap.size (.int .i64 0) (.int .u32 0) w2 := (B2.block _ (by simp)).trans r0
  have T2 := hid (b0.trans (B2.mono (by simp)))
  obtain ⟨c0, c1, c2, c3, c4, c5, f4, f5⟩ := H2.out.c
  have R2 := hid r2
  clear H0 H1 b1 b2 B2 r0 r2 b0 hl0
  have hN : datas D.blocks ≤ 6000 := by omega
  have hF : first D.blocks ≤ 6000 := by omega
  have hdat : ∀ j : Nat, j ≤ 6000 → ((A.last : Int) - (first D.blocks : Int) + 1 + (j : Int)).tmod (datas D.blocks : Int) = (((A.last - first D.blocks + 1 + j) % datas D.blocks : Nat) : Int) := fun j hj => by
    rw [show (A.last : Int) - (first D.blocks : Int) + 1 + (j : Int) = ((A.last - first D.blocks + 1 + j : Nat) : Int) by omega]
    rfl
  have HD := hid hdat
  have HP := hid hprev
  clear hdat hprev
  go_wp2_with fail
  go_loopw [25] (fun iv wr => ∃ j : Nat, j ≤ datas D.blocks ∧ iv = .int .i64 (j : Int) ∧ wr = w2) (fun iv _ => datas D.blocks - (intOf iv).toNat)
  case atStart => exact ⟨0, by omega, rfl, rfl⟩
  case round =>
    obtain ⟨j, hj, rfl, rfl⟩ := hrel
    have hsp := HD.out j (by omega)
    obtain ⟨s1, s2⟩ := spot_in (b := D.blocks) (last := A.last) (k := j) H2.out.b1
    have hfr := free_w lo d n m D a u k A (spot D.blocks A.last j : Nat) wr H2.out (fits_nat (by omega))
    have hse : (first D.blocks : Int) + (((A.last - first D.blocks + 1 + j) % datas D.blocks : Nat) : Int) = ((spot D.blocks A.last j : Nat) : Int) := by unfold spot; omega
    have hmo := Nat.mod_lt (A.last - first D.blocks + 1 + j) hp.1
    generalize (A.last - first D.blocks + 1 + j) % datas D.blocks = y at *
    by_cases hlt : j < datas D.blocks
    · rw [HP.out j hlt] at hfr
      generalize spot D.blocks A.last j = z at *
      go_wp2_with fail
      refine hfr.mono ?_
      rintro e w' ⟨rfl, rfl⟩
      go_wp2_with fail
      go_roundw
      case rel => exact ⟨j + 1, by omega, by go_num, trivial⟩
      case measure => simp [intOf]; omega
    · obtain rfl : j = datas D.blocks := by omega
      obtain ⟨x, hx, hX⟩ := HB.out.get 4 _ (by decide) rfl
      have hX1 := (hX.below T2.out).1
      have hg : (6 : Nat) < w.heap.size := World.block_lt_of_cell? w _ hX.1
      have hg1 : w.heap.size ≠ (6 : Nat) := by omega
      have hg2 : (6 : Nat) ≠ w.heap.size := by omega
      obtain ⟨x0, x1, f0, f1⟩ := RootW.blk_c R2.out
      clear hfr hse
      go_wp2_with fail
      go_region
      all_goals
        go_wp2
        refine bodyPost_ret (v := .tuple #[.agg #[.int .i64 0, .int .u32 0], ev x]) (by simp [results, Tryd.results62, go_sem, x0, x1]) rfl ⟨⟨x, hx, rfl⟩, ((T2.out.setCell (Nat.le_refl _) _).setCell (Nat.le_refl _) _).drew⟩
end Go.Proofs.YtagbnacffiagcaaDoor.BlobW
