/- The walk of the document's device's making; The walks of package dev that only ask, and Arm; The walk of dev's Clone; A block's bytes, filled up; what is copied; What the laws on devices begin with: a block of one byte; A slice of structs whose fields are one cell each, opened at every index and field; A slice of things that a device is told: structs of three ints, a byte, a word, bytes, ints; What one thing told leaves of a device: plain. -/
import Derived.Test.YtagbnacffiagcaaDoorDevPlaysP3
import Derived.Deep.AppendLies
import Derived.Deep.OwnRows
import Derived.Deep.CutRange
import Derived.Test.YtagbnacffiagcaaDoorDevPlaysP2
import Derived.Test.YtagbnacffiagcaaDoorShelf
import Derived.Shelf.SlMaps.Clone
import Derived.Test.YtagbnacffiagcaaDoorDevPlaysP1
import Derived.Laws.CopyOwn
import Derived.Deep.Slices
import Derived.ChangeSame
import Derived.ChangeSlices
namespace Go.Proofs.YtagbnacffiagcaaDoor.RDevW
open Go Go.RowKit Go.Maps Go.Proofs.YtagbnacffiagcaaDoor.Mem Go.Proofs.YtagbnacffiagcaaDoor.MapsW Go.Proofs.YtagbnacffiagcaaDoor.DevG
set_option linter.unusedVariables false
set_option maxRecDepth 100000

theorem elRows : El Tryd.prog 92 28 (.slice none 0 0) 1 24 := ⟨Tryd.underlying92, by kernel_rfl, rfl, by decide⟩
theorem infoB : (Tryd.prog.info? 4).map (fun i => (i.zero, i.size, i.bytes)) = some (some (.bool false), 1, 1) := by kernel_rfl
theorem info8 : (Tryd.prog.info? 5).map (fun i => (i.zero, i.size, i.bytes)) = some (some (.int .u8 0), 1, 1) := by kernel_rfl
abbrev fls (b : Nat) : Array Value := madeCells #[.bool false] b
abbrev slc (g b : Nat) : Value := .slice (some ⟨g, 0, none⟩) b b
abbrev ncells (b gp ga gi ge : Nat) (vF vW : Value) : Array Value := #[vF, vW, slc gp b, slc ga b, slc gi b, slc ge b, .int .i64 0, .int .i64 0, .bool false]
/-- rows of zeros -/
def Zs (w : World) (xs : List Value) : Prop := ∀ u ∈ xs, ∃ r rc, u = .slice (some ⟨r, 0, none⟩) 256 rc ∧ Nums .u8 w (some ⟨r, 0, none⟩) 256 rc (List.replicate 256 0)
/-- the device under way -/
structure NAt (w : World) (lo b x gp ga gi ge kF kW : Nat) (vF vW : Value) (xF xW : List Value) : Prop where
  cells : w.heap[x]? = some (.cells (ncells b gp ga gi ge vF vW) 95)
  hp : w.heap[gp]? = some (.cells (fls b) 4)
  ha : w.heap[ga]? = some (.cells (fls b) 4)
  hi : w.heap[gi]? = some (.cells (fls b) 4)
  he : w.heap[ge]? = some (.cells (fls b) 4)
  oF : w.ownsRow lo 28 1 vF kF xF
  oW : w.ownsRow lo 28 1 vW kW xW
  zF : Zs w xF
  zW : Zs w xW
  nd : [x, gp, ga, gi, ge].Nodup
  ne : ∀ g, vF.ownBlock = some g → vW.ownBlock ≠ some g
  lo_ : ∀ y ∈ [x, gp, ga, gi, ge], lo ≤ y
  nF : kF = 0 → vF = .slice none 0 0
  nW : kW = 0 → vW = .slice none 0 0
def Sv (v : Value) : List Nat := match v.ownBlock with
  | some g => [g]
  | none => []
theorem mem_Sv {v : Value} {g : Nat} (h : g ∈ Sv v) : v.ownBlock = some g := by
  unfold Sv at h
  cases e : v.ownBlock with
  | some g' => rw [e] at h; rw [List.mem_singleton.1 h]
  | none => rw [e] at h; cases h
theorem turn_Sv {v : Value} {w w' : World} (h : w.grownBy w' v.ownBlock) : Turn (Sv v) w w' := by
  unfold Sv
  cases e : v.ownBlock with
  | some g => rw [e] at h; exact Turn.of_grown h (by simp)
  | none => rw [e] at h; exact ⟨h.os, h.tape, h.output, h.size, fun k hk _ => h.block k hk (by simp)⟩
theorem own_turnS {S : List Nat} {w w' : World} {base : Nat} {e : TypeId} {size : Nat} {v : Value} {n : Nat} {xs : List Value} (h : w.ownsRow base e size v n xs) (T : Turn S w w') (hS : ∀ g, v.ownBlock = some g → g ∉ S) : w'.ownsRow base e size v n xs := by
  rcases h with ⟨h1, h2 | ⟨g, c, cur, e1, hb, hg, r⟩⟩
  · exact ⟨h1, .inl h2⟩
  · exact ⟨h1, .inr ⟨g, c, cur, e1, hb, T.cells hg (hS g (by rw [e1]; rfl)), r⟩⟩
/-- the block of a row of rows is of rows -/
theorem own_blk {w : World} {base : Nat} {e : TypeId} {size : Nat} {v : Value} {n : Nat} {xs : List Value} (h : w.ownsRow base e size v n xs) {g : Nat} (hg : v.ownBlock = some g) : base ≤ g ∧ ∃ cur, w.heap[g]? = some (.cells cur e) := by
  rcases h with ⟨h1, h2 | ⟨g', c, cur, e1, hb, hg', r⟩⟩
  · rw [h2.1] at hg; cases hg
  · rw [e1] at hg; cases hg; exact ⟨hb, cur, hg'⟩
theorem ty_ne {w : World} {g y : Nat} {c d : Array Value} {e e' : TypeId} (h : w.heap[g]? = some (.cells c e)) (k : w.heap[y]? = some (.cells d e')) (hne : e ≠ e') : g ≠ y := by
  rintro rfl
  have := (Obj.cells.inj (Option.some.inj (h.symm.trans k))).2.1
  exact hne this
section
variable {w w3 : World} {lo b x gp ga gi ge kF kW : Nat} {vF vW : Value} {xF xW : List Value}
theorem NAt.five (h : NAt w lo b x gp ga gi ge kF kW vF vW xF xW) {g : Nat} {c : Array Value} (hg : w.heap[g]? = some (.cells c 28)) : g ∉ [x, gp, ga, gi, ge] := by
  intro hm
  simp only [List.mem_cons, List.not_mem_nil, or_false] at hm
  rcases hm with e | e | e | e | e
  · exact ty_ne hg h.cells (by decide) e
  · exact ty_ne hg h.hp (by decide) e
  · exact ty_ne hg h.ha (by decide) e
  · exact ty_ne hg h.hi (by decide) e
  · exact ty_ne hg h.he (by decide) e
theorem own_no8 (own : w.ownsRow lo 28 1 vF kF xF) (hz : Zs w xF) (hn : kF = 0 → vF = .slice none 0 0) : ∀ y ∈ Sv vF, No8 w y := by
  intro y hy
  have hy := mem_Sv hy
  rcases Nat.eq_zero_or_pos kF with hk | hk
  · rw [hn hk] at hy; cases hy
  · obtain ⟨a, c, rfl, hR⟩ := ownsRow_slice own
    obtain ⟨g, rfl⟩ := own_some own hk
    cases hy
    have hl : xF.length = kF := by have := own.1; omega
    have h0 : xF[0]? = some xF[0] := List.getElem?_eq_getElem (by omega)
    have hc := Row.cell hR h0
    obtain ⟨r, rc, e, _⟩ := hz _ (List.getElem_mem (l := xF) (n := 0) (by omega))
    rw [e] at hc
    exact .inr ⟨_, hc, fun z e => by cases e⟩
theorem zs_turn {S : List Nat} {xs : List Value} (h : Zs w xs) (T : Turn S w w3) (hS : ∀ y ∈ S, No8 w y) : Zs w3 xs := fun u hu =>
  let ⟨r, rc, e, hn⟩ := h u hu; ⟨r, rc, e, nums_no8 hn T hS⟩
/-- what writes elsewhere leaves it -/
theorem NAt.turn {S : List Nat} (h : NAt w lo b x gp ga gi ge kF kW vF vW xF xW) (T : Turn S w w3) (hS : ∀ y ∈ S, No8 w y) (h5 : ∀ y ∈ [x, gp, ga, gi, ge], y ∉ S) (hF : ∀ g, vF.ownBlock = some g → g ∉ S) (hW : ∀ g, vW.ownBlock = some g → g ∉ S) : NAt w3 lo b x gp ga gi ge kF kW vF vW xF xW :=
  ⟨T.cells h.cells (h5 _ (by simp)), T.cells h.hp (h5 _ (by simp)), T.cells h.ha (h5 _ (by simp)), T.cells h.hi (h5 _ (by simp)), T.cells h.he (h5 _ (by simp)), own_turnS h.oF T hF, own_turnS h.oW T hW, zs_turn h.zF T hS, zs_turn h.zW T hS, h.nd, h.ne, h.lo_, h.nF, h.nW⟩
theorem NAt.below (h : NAt w lo b x gp ga gi ge kF kW vF vW xF xW) (hb : Below w.heap.size w w3) : NAt w3 lo b x gp ga gi ge kF kW vF vW xF xW :=
  h.turn (S := []) (Turn.of_below hb) (by simp) (by simp) (by simp) (by simp)
theorem NAt.dist (h : NAt w lo b x gp ga gi ge kF kW vF vW xF xW) : gp ≠ x ∧ ga ≠ x ∧ gi ≠ x ∧ ge ≠ x := by
  have := h.nd
  simp only [List.nodup_cons, List.mem_cons, List.not_mem_nil, or_false, not_or] at this
  obtain ⟨⟨a1, a2, a3, a4⟩, _⟩ := this
  exact ⟨fun e => a1 e.symm, fun e => a2 e.symm, fun e => a3 e.symm, fun e => a4 e.symm⟩
theorem NAt.pushF (h : NAt w lo b x gp ga gi ge kF kW vF vW xF xW) {g' cap r rc : Nat} (hr : Nums .u8 w (some ⟨r, 0, none⟩) 256 rc (List.replicate 256 0)) (hg : w.grownBy w3 vF.ownBlock)
    (own3 : w3.ownsRow lo 28 1 (.slice (some ⟨g', 0, none⟩) (kF + 1) cap) (kF + 1) (xF ++ [.slice (some ⟨r, 0, none⟩) 256 rc])) (hg' : vF.ownBlock = some g' ∨ g' = w.heap.size) :
    NAt (w3.setCell ⟨x, 0, none⟩ (.slice (some ⟨g', 0, none⟩) (kF + 1) cap)) lo b x gp ga gi ge (kF + 1) kW (.slice (some ⟨g', 0, none⟩) (kF + 1) cap) vW (xF ++ [.slice (some ⟨r, 0, none⟩) 256 rc]) xW := by
  have T := turn_Sv hg
  have h8 := own_no8 h.oF h.zF h.nF
  have h5 : ∀ y ∈ [x, gp, ga, gi, ge], y ∉ Sv vF := fun y hy hm => by
    obtain ⟨_, cur, hc⟩ := own_blk h.oF (mem_Sv hm)
    exact h.five hc hy
  have hW : ∀ g, vW.ownBlock = some g → g ∉ Sv vF := fun g hg hm => h.ne g (mem_Sv hm) hg
  obtain ⟨d1, d2, d3, d4⟩ := h.dist
  have k3 := T.cells h.cells (h5 _ (by simp))
  have T4 := Turn.setCell w3 x 0 (.slice (some ⟨g', 0, none⟩) (kF + 1) cap) (S := [x]) (by simp)
  have x8 : No8 w3 x := .inr ⟨vF, by simp [World.cell?, k3], fun z e => by
    have := h.oF
    rcases this with ⟨_, h2 | ⟨g', c, cur, e1, _⟩⟩
    · rw [h2.1] at e; cases e
    · rw [e1] at e; cases e⟩
  have hS4 : ∀ y ∈ [x], No8 w3 y := fun y hy => by rw [List.mem_singleton.1 hy]; exact x8
  obtain ⟨_, cur3, hc3⟩ := own_blk own3 (g := g') rfl
  have hgx : g' ≠ x := ty_ne hc3 k3 (by decide)
  have hWx : ∀ g, vW.ownBlock = some g → g ∉ [x] := fun g hg hm => by
    obtain ⟨_, cur, hc⟩ := own_blk h.oW hg
    exact h.five hc (by rw [List.mem_singleton.1 hm]; simp)
  refine ⟨?_, T4.cells (T.cells h.hp (h5 _ (by simp))) (by simpa using d1), T4.cells (T.cells h.ha (h5 _ (by simp))) (by simpa using d2), T4.cells (T.cells h.hi (h5 _ (by simp))) (by simpa using d3), T4.cells (T.cells h.he (h5 _ (by simp))) (by simpa using d4), own_turnS own3 T4 (fun g e hm => ?_), own_turnS (own_turnS h.oW T hW) T4 hWx, ?_, zs_turn (zs_turn h.zW T h8) T4 hS4, h.nd, fun g e => ?_, h.lo_, fun e => absurd e (by omega), h.nW⟩
  · simp [World.setCell, Array.getElem?_modify, k3]
  · cases e; exact hgx (List.mem_singleton.1 hm)
  · intro u hu
    rcases List.mem_append.1 hu with hu | hu
    · exact zs_turn (zs_turn h.zF T h8) T4 hS4 u hu
    · rw [List.mem_singleton.1 hu]
      exact ⟨r, rc, rfl, nums_no8 (nums_no8 hr T h8) T4 hS4⟩
  · cases e
    rcases hg' with e | e
    · exact h.ne g' e
    · intro e2
      obtain ⟨_, cur, hc⟩ := own_blk h.oW (g := g') e2
      have := (Array.getElem?_eq_some_iff.1 hc).1
      omega
theorem NAt.pushW (h : NAt w lo b x gp ga gi ge kF kW vF vW xF xW) {g' cap r rc : Nat} (hr : Nums .u8 w (some ⟨r, 0, none⟩) 256 rc (List.replicate 256 0)) (hg : w.grownBy w3 vW.ownBlock)
    (own3 : w3.ownsRow lo 28 1 (.slice (some ⟨g', 0, none⟩) (kW + 1) cap) (kW + 1) (xW ++ [.slice (some ⟨r, 0, none⟩) 256 rc])) (hg' : vW.ownBlock = some g' ∨ g' = w.heap.size) :
    NAt (w3.setCell ⟨x, 1, none⟩ (.slice (some ⟨g', 0, none⟩) (kW + 1) cap)) lo b x gp ga gi ge kF (kW + 1) vF (.slice (some ⟨g', 0, none⟩) (kW + 1) cap) xF (xW ++ [.slice (some ⟨r, 0, none⟩) 256 rc]) := by
  have T := turn_Sv hg
  have h8 := own_no8 h.oW h.zW h.nW
  have h5 : ∀ y ∈ [x, gp, ga, gi, ge], y ∉ Sv vW := fun y hy hm => by
    obtain ⟨_, cur, hc⟩ := own_blk h.oW (mem_Sv hm)
    exact h.five hc hy
  have hW : ∀ g, vF.ownBlock = some g → g ∉ Sv vW := fun g hg hm => h.ne g hg (mem_Sv hm)
  obtain ⟨d1, d2, d3, d4⟩ := h.dist
  have k3 := T.cells h.cells (h5 _ (by simp))
  have T4 := Turn.setCell w3 x 1 (.slice (some ⟨g', 0, none⟩) (kW + 1) cap) (S := [x]) (by simp)
  have x8 : No8 w3 x := .inr ⟨vF, by simp [World.cell?, k3], fun z e => by
    have := h.oF
    rcases this with ⟨_, h2 | ⟨g', c, cur, e1, _⟩⟩
    · rw [h2.1] at e; cases e
    · rw [e1] at e; cases e⟩
  have hS4 : ∀ y ∈ [x], No8 w3 y := fun y hy => by rw [List.mem_singleton.1 hy]; exact x8
  obtain ⟨_, cur3, hc3⟩ := own_blk own3 (g := g') rfl
  have hgx : g' ≠ x := ty_ne hc3 k3 (by decide)
  have hWx : ∀ g, vF.ownBlock = some g → g ∉ [x] := fun g hg hm => by
    obtain ⟨_, cur, hc⟩ := own_blk h.oF hg
    exact h.five hc (by rw [List.mem_singleton.1 hm]; simp)
  refine ⟨?_, T4.cells (T.cells h.hp (h5 _ (by simp))) (by simpa using d1), T4.cells (T.cells h.ha (h5 _ (by simp))) (by simpa using d2), T4.cells (T.cells h.hi (h5 _ (by simp))) (by simpa using d3), T4.cells (T.cells h.he (h5 _ (by simp))) (by simpa using d4), own_turnS (own_turnS h.oF T hW) T4 hWx, own_turnS own3 T4 (fun g e hm => ?_), zs_turn (zs_turn h.zF T h8) T4 hS4, ?_, h.nd, fun g e e2 => ?_, h.lo_, h.nF, fun e => absurd e (by omega)⟩
  · simp [World.setCell, Array.getElem?_modify, k3]
  · cases e; exact hgx (List.mem_singleton.1 hm)
  · intro u hu
    rcases List.mem_append.1 hu with hu | hu
    · exact zs_turn (zs_turn h.zW T h8) T4 hS4 u hu
    · rw [List.mem_singleton.1 hu]
      exact ⟨r, rc, rfl, nums_no8 (nums_no8 hr T h8) T4 hS4⟩
  · cases e2
    rcases hg' with e3 | e3
    · exact h.ne g' e e3
    · obtain ⟨_, cur, hc⟩ := own_blk h.oF (g := g') e
      have := (Array.getElem?_eq_some_iff.1 hc).1
      omega
theorem NAt.afterF (h : NAt w lo b x gp ga gi ge kF kW vF vW xF xW) (hg : w.grownBy w3 vF.ownBlock) : w3.cell? ⟨x, 0, none⟩ = some vF ∧ w3.frozen? ⟨x, 0, none⟩ = false := by
  have k3 := (turn_Sv hg).cells h.cells (fun hm => by
    obtain ⟨_, cur, hc⟩ := own_blk h.oF (mem_Sv hm)
    exact h.five hc (by simp))
  simp [World.cell?, World.frozen?, k3]
theorem NAt.afterW (h : NAt w lo b x gp ga gi ge kF kW vF vW xF xW) (hg : w.grownBy w3 vW.ownBlock) : w3.cell? ⟨x, 1, none⟩ = some vW ∧ w3.frozen? ⟨x, 1, none⟩ = false := by
  have k3 := (turn_Sv hg).cells h.cells (fun hm => by
    obtain ⟨_, cur, hc⟩ := own_blk h.oW (mem_Sv hm)
    exact h.five hc (by simp))
  simp [World.cell?, World.frozen?, k3]
theorem NAt.c (h : NAt w lo b x gp ga gi ge kF kW vF vW xF xW) : w.cell? ⟨x, 0, none⟩ = some vF ∧ w.cell? ⟨x, 1, none⟩ = some vW ∧ x < w.heap.size := by
  refine ⟨?_, ?_, (Array.getElem?_eq_some_iff.1 h.cells).1⟩ <;> simp [World.cell?, h.cells]
theorem NAt.bls {lo b x gp ga gi ge : Nat} (h : w.heap[gp]? = some (.cells (fls b) 4)) : Bls w gp b fun _ => false := by
  refine ⟨⟨_, _, h⟩, fun q hq => ?_⟩
  have : w.cell? ⟨gp, q, none⟩ = (fls b)[q]? := by
    unfold World.cell?
    dsimp only
    rw [h]
    rfl
  rw [this]
  simp [madeCells, hq, Nat.mod_one]
theorem NAt.rws {v : Value} {k : Nat} {xs : List Value} (own : w.ownsRow lo 28 1 v k xs) (hz : Zs w xs) (hk : 0 < k) : ∃ g c, v = .slice (some ⟨g, 0, none⟩) k c ∧ Rws w g k (fun _ => List.replicate 256 0) ∧ lo ≤ g := by
  obtain ⟨a, c, rfl, hR⟩ := ownsRow_slice own
  obtain ⟨g, rfl⟩ := own_some own hk
  obtain ⟨hlo, cur, hc⟩ := own_blk own (g := g) rfl
  have hl : xs.length = k := by have := own.1; omega
  refine ⟨g, c, rfl, ⟨⟨_, _, hc⟩, fun q hq => ?_⟩, hlo⟩
  have h0 : xs[q]? = some xs[q] := List.getElem?_eq_getElem (by omega)
  have hcl := Row.cell hR h0
  obtain ⟨r, rc, e, hn⟩ := hz _ (List.getElem_mem (l := xs) (n := q) (by omega))
  rw [e] at hcl
  exact ⟨r, rc, by simpa using hcl, hn⟩
theorem NAt.done (h : NAt w lo b x gp ga gi ge b b vF vW xF xW) (h1 : 1 ≤ b) (h2 : b ≤ 6000) : ∃ G R, RAt w lo x G R ∧ Rel (Dv.new b) R := by
  obtain ⟨gf, cf, rfl, rf, lf⟩ := NAt.rws h.oF h.zF h1
  obtain ⟨gw, cw, rfl, rw', lw⟩ := NAt.rws h.oW h.zW h1
  obtain ⟨_, curf, hcf⟩ := own_blk h.oF (g := gf) rfl
  obtain ⟨_, curw, hcw⟩ := own_blk h.oW (g := gw) rfl
  have f5 := h.five hcf
  have w5 := h.five hcw
  have hne : gf ≠ gw := fun e => h.ne gf rfl (by rw [e]; rfl)
  refine ⟨⟨gf, gw, gp, ga, gi, ge⟩, ⟨b, fun _ => List.replicate 256 0, fun _ => List.replicate 256 0, fun _ => false, fun _ => false, fun _ => false, fun _ => false, 0, 0, false⟩, ⟨h1, h2, ⟨cf, cw, h.cells⟩, rf, rw', NAt.bls (lo := lo) (x := x) (ga := ga) (gi := gi) (ge := ge) h.hp, NAt.bls (lo := lo) (x := x) (ga := ga) (gi := gi) (ge := ge) h.ha, NAt.bls (lo := lo) (x := x) (ga := ga) (gi := gi) (ge := ge) h.hi, NAt.bls (lo := lo) (x := x) (ga := ga) (gi := gi) (ge := ge) h.he, ?_, ?_, ?_⟩, rel_new b _ rfl (fun _ _ => rfl) rfl rfl rfl rfl rfl rfl rfl⟩
  · have nb : ∀ y, w.heap[y]? = some (.cells (fls b) 4) → No8 w y := fun y hy => .inr ⟨.bool false, (NAt.bls (lo := lo) (x := x) (ga := ga) (gi := gi) (ge := ge) hy).at_ 0 h1, fun z e => by cases e⟩
    have nr : ∀ y, Rws w y b (fun _ => List.replicate 256 0) → No8 w y := fun y hy => .inr (let ⟨r, rc, h1, _⟩ := hy.at_ 0 h1; ⟨_, h1, fun z e => by cases e⟩)
    intro y hy
    simp only [List.mem_cons, List.not_mem_nil, or_false] at hy
    rcases hy with rfl | rfl | rfl | rfl | rfl | rfl | rfl
    · exact .inr ⟨_, h.c.1, fun z e => by cases e⟩
    · exact nr _ rf
    · exact nr _ rw'
    · exact nb _ h.hp
    · exact nb _ h.ha
    · exact nb _ h.hi
    · exact nb _ h.he
  · have := h.nd
    simp only [List.nodup_cons, List.mem_cons, List.not_mem_nil, or_false, not_or, not_false_eq_true, List.nodup_nil, and_true] at this f5 w5 ⊢
    obtain ⟨⟨a1, a2, a3, a4⟩, b1, c1, d1⟩ := this
    exact ⟨⟨fun e => f5.1 e.symm, fun e => w5.1 e.symm, a1, a2, a3, a4⟩, ⟨hne, f5.2⟩, w5.2, b1, c1, d1⟩
  · intro y hy
    simp only [List.mem_cons, List.not_mem_nil, or_false] at hy
    rcases hy with rfl | rfl | rfl | hy
    · exact h.lo_ _ (by simp)
    · exact lf
    · exact lw
    · exact h.lo_ _ (by simp; exact .inr hy)
end
/-- 256 zeros -/
theorem zero_row (w : World) (cs : Array Value) (h : cs.toList = nums .u8 (List.replicate 256 0)) : Nums .u8 (w.alloc (.cells cs 5)) (some ⟨w.heap.size, 0, none⟩) 256 256 (List.replicate 256 0) := by
  have hs : 256 = cs.size := by
    have := congrArg List.length h
    rw [nums_length, List.length_replicate] at this
    rw [← this]; simp
  have := Row.fresh w cs 5 (0, 0) 256 hs (by decide)
  rw [h] at this
  exact this
/-- the world where a row of zeros lies in a row of its own -/
abbrev wz (Z : Array Value) (w : World) : World := ((w.alloc (.cells Z 5)).alloc (.cells #[.slice (some ⟨w.heap.size, 0, none⟩) 256 256] 28)).drew
theorem wz_facts (Z : Array Value) (w : World) (h : Z.toList = nums .u8 (List.replicate 256 0)) : Below w.heap.size w (wz Z w) ∧ (wz Z w).heap.size = w.heap.size + 2 ∧ Nums .u8 (wz Z w) (some ⟨w.heap.size, 0, none⟩) 256 256 (List.replicate 256 0) ∧ (wz Z w).cell? ⟨w.heap.size + 1, 0, none⟩ = some (.slice (some ⟨w.heap.size, 0, none⟩) 256 256) := by
  have b1 := (Below.refl w.heap.size w).alloc (Nat.le_refl _) (.cells Z 5)
  have b2 := (Below.refl (w.alloc (.cells Z 5)).heap.size (w.alloc (.cells Z 5))).alloc (Nat.le_refl _) (.cells #[.slice (some ⟨w.heap.size, 0, none⟩) 256 256] 28)
  refine ⟨(b1.alloc (by simp) _).drew, by simp [wz], (zero_row w Z h).below b2.drew, ?_⟩
  have : (wz Z w).heap[w.heap.size + 1]? = some (.cells #[.slice (some ⟨w.heap.size, 0, none⟩) 256 256] 28) := alloc_at (by simp) _
  show World.cell? _ _ = _
  unfold World.cell?
  dsimp only
  rw [this]
  rfl
theorem NAt.start (w : World) (b p a i e x : Nat) (hx : x = w.heap.size + 4) (hp : w.heap.size ≤ p ∧ p < w.heap.size + 4) (ha : w.heap.size ≤ a ∧ a < w.heap.size + 4) (hi : w.heap.size ≤ i ∧ i < w.heap.size + 4) (he : w.heap.size ≤ e ∧ e < w.heap.size + 4) (hn : p ≠ a ∧ p ≠ i ∧ p ≠ e ∧ a ≠ i ∧ a ≠ e ∧ i ≠ e) :
    NAt (((((w.alloc (.cells (fls b) 4)).alloc (.cells (fls b) 4)).alloc (.cells (fls b) 4)).alloc (.cells (fls b) 4)).alloc (.cells (ncells b p a i e (.slice none 0 0) (.slice none 0 0)) 95)).drew w.heap.size b x p a i e 0 0 (.slice none 0 0) (.slice none 0 0) [] [] ∧
    Below w.heap.size w (((((w.alloc (.cells (fls b) 4)).alloc (.cells (fls b) 4)).alloc (.cells (fls b) 4)).alloc (.cells (fls b) 4)).alloc (.cells (ncells b p a i e (.slice none 0 0) (.slice none 0 0)) 95)).drew := by
  subst hx
  have look : ∀ y, w.heap.size ≤ y → y < w.heap.size + 4 → (((((w.alloc (.cells (fls b) 4)).alloc (.cells (fls b) 4)).alloc (.cells (fls b) 4)).alloc (.cells (fls b) 4)).alloc (.cells (ncells b p a i e (.slice none 0 0) (.slice none 0 0)) 95)).heap[y]? = some (.cells (fls b) 4) := fun y h1 h2 => by
    refine alloc_old ?_
    by_cases y3 : y = w.heap.size + 3
    · exact alloc_at (by simp; omega) _
    refine alloc_old ?_
    by_cases y2 : y = w.heap.size + 2
    · exact alloc_at (by simp; omega) _
    refine alloc_old ?_
    by_cases y1 : y = w.heap.size + 1
    · exact alloc_at (by simp; omega) _
    exact alloc_old (alloc_at (by omega) _)
  obtain ⟨n1, n2, n3, n4, n5, n6⟩ := hn
  refine ⟨⟨alloc_at (by simp) _, look p hp.1 hp.2, look a ha.1 ha.2, look i hi.1 hi.2, look e he.1 he.2, World.ownsRow_nil _ _ _ _, World.ownsRow_nil _ _ _ _, fun u hu => (by cases hu), fun u hu => (by cases hu), ?_, fun g hg => (by cases hg), ?_, fun _ => rfl, fun _ => rfl⟩, ?_⟩
  · simp only [List.nodup_cons, List.mem_cons, List.not_mem_nil, or_false, not_or, not_false_eq_true, List.nodup_nil, and_true]
    exact ⟨⟨by omega, by omega, by omega, by omega⟩, ⟨n1, n2, n3⟩, ⟨n4, n5⟩, n6⟩
  · intro y hy
    simp only [List.mem_cons, List.not_mem_nil, or_false] at hy
    omega
  · exact ((((((Below.refl w.heap.size w).alloc (Nat.le_refl _) _).alloc (by simp) _).alloc (by simp; omega) _).alloc (by simp; omega) _).alloc (by simp; omega) _).drew
/-- a row appended to rows, in a region that draws its order -/
theorem step_pushR {ops : Array Oper} {o : Oper} {a : Act} {K : Act → World → Prop} {Q : Exit → Act → World → Prop} {E : Prop} {w : World} (hgd : o.guard = none) (s x : Operand)
    (ho : o.op = .call { callee := .builtin .append, args := #[s, x], argTypes := #[92, 92] })
    (base : Nat) (v : Value) (n : Nat) (xs : List Value) (hs : a.eval s = v) (hown : w.ownsRow base 28 1 v n xs)
    (g : Nat) (u : Value) (hx : a.eval x = .slice (some ⟨g, 0, none⟩) 1 1) (hc : w.cell? ⟨g, 0, none⟩ = some u) (h1 : u.oneCell' = true) (hn : n ≤ 1000000000) (hbase : base ≤ w.heap.size)
    (h : ∀ g' cap' w', w'.ownsRow base 28 1 (.slice (some ⟨g', 0, none⟩) (n + 1) cap') (n + 1) (xs ++ [u]) → w.grownBy w' v.ownBlock → (v.ownBlock = some g' ∨ g' = w.heap.size) → K (a.put o.dst (.slice (some ⟨g', 0, none⟩) (n + 1) cap')) w') :
    if Region.wanted o (yielded ops a.tmps) = true then Oper.wp Tryd.prog o a w K Q else E := by
  obtain ⟨i, hi, hz0, hz1, hz2⟩ := info_parts elRows.hi
  refine step_append_lies w hgd s x _ ho base _ i _ 1 24 elRows.ht hi hz0 hz1 hz2 elRows.hz elRows.h0 v n _ hs hown ⟨g, 0, none⟩ 1 1 [u] hx rfl ?_ (fun y hy => by simp at hy; subst hy; exact h1) (by decide) (by unfold maxLen; omega) (by omega) hbase _ rfl ?_
  · intro j y hj
    obtain ⟨b, off, ha, hc'⟩ := (Row.one hc).2.2.2.2 j y hj
    cases ha
    rw [Addr.add_lit]
    exact hc'
  · intro g' cap' w' h2 h3 h4 _
    exact h _ _ w' h2 h3 h4
set_option maxHeartbeats 6400000 in
theorem rnew_w (b : Nat) (w : World) (h1 : 1 ≤ b) (h2 : b ≤ 6000) :
    Calls Tryd.prog 34 #[.int .i64 b] w fun e w' => ∃ x G R, e = .returned (ptr x) ∧ RAt w' w.heap.size x G R ∧ Rel (Dv.new b) R ∧ Below w.heap.size w w' := by
  have hmkB := run_make_row' (P := Tryd.prog) 93 4 (.bool false) 1 Tryd.underlying93 infoB rfl .i64 .i64 b (by omega) (by omega)
  have hmk8 := run_make_row' (P := Tryd.prog) 28 5 (.int .u8 0) 1 Tryd.underlying28 info8 rfl .i64 .i64 256 (by omega) (by omega)
  simp only [Int.cast_ofNat_Int] at hmk8
  obtain ⟨Z, hZ⟩ : ∃ Z, Z = madeCells #[Value.int .u8 0] 256 := ⟨_, rfl⟩
  rw [← hZ] at hmk8
  have HZ := hid (show Z.toList = nums .u8 (List.replicate 256 0) by rw [hZ]; exact RefW.made_nums .u8 256)
  clear hZ
  go_enter Tryd.func34, Tryd.ntmps34
  go_upto_region 1 with fail
  go_cut [3] from 5 to 14 (fun v wx => ∃ x gp ga gi ge, v = ptr x ∧ NAt wx w.heap.size b x gp ga gi ge 0 0 (.slice none 0 0) (.slice none 0 0) [] [] ∧ Below w.heap.size w wx)
  case first =>
    --DEV0
    go_region
    all_goals
      go_wp2_with fail
      go_meet
      exact ⟨_, _, _, _, _, rfl, NAt.start w b _ _ _ _ _ rfl (by omega) (by omega) (by omega) (by omega) (by omega)⟩
    --DEV1
  case rest =>
    obtain ⟨x, gp, ga, gi, ge, rfl, h0, b0⟩ := hcut
    have H0 := hid h0
    have B0 := hid b0
    have hz0 := b0.size
    clear h0 b0
    go_wp2_with fail
    go_loopw [4] (fun iv wr => ∃ (k : Nat) (vF vW : Value) (xF xW : List Value), k ≤ b ∧ iv = .int .i64 (k : Int) ∧ NAt wr w.heap.size b x gp ga gi ge k k vF vW xF xW ∧ Below w.heap.size w wr) (fun iv _ => b - (RowKit.intOf iv).toNat)
    case atStart => exact ⟨0, _, _, _, _, by omega, rfl, H0.out, B0.out⟩
    case round =>
      clear H0 B0
      obtain ⟨k, vF, vW, xF, xW, hk, rfl, hN, hb⟩ := hrel
      by_cases hlt : k < b
      · obtain ⟨bA, zA, nA, cA⟩ := wz_facts Z wr HZ.out
        have hA := hN.below bA
        obtain ⟨c0, c1, hxl⟩ := hN.c
        have HN := hid hN
        have hbl := hb.size
        clear hN
        have HB := hid hb
        clear hb
        go_wp2_with fail
        go_cut [] from 20 to 29 (fun wx => ∃ (v' : Value) (x' : List Value), NAt wx w.heap.size b x gp ga gi ge (k + 1) k v' vW x' xW ∧ Below w.heap.size w wx)
        case first =>
          go_region_law (refine step_pushR rfl _ _ rfl w.heap.size vF k xF rfl ?hown _ (.slice (some ⟨wr.heap.size, 0, none⟩) 256 256) rfl ?hc rfl (by omega) ?hbase ?_; (case hown => exact hA.oF); (case hc => exact cA); (case hbase => exact Nat.le_trans hbl bA.size); intro g1 cap1 w1 own1 hg1 hg2; obtain ⟨s0, s1⟩ := hA.afterF hg1; have hP := hA.pushF nA hg1 own1 hg2; obtain ⟨q0, q1, _⟩ := hP.c)
          all_goals
            have hB1 := hid ((((HB.out.trans (bA.mono hbl)).grown hg1 (Nat.le_trans hbl bA.size) (fun g e => (own_blk hA.oF e).1))).setCell (p := ⟨x, 0, none⟩) (hA.lo_ x (by simp)) (.slice (some ⟨g1, 0, none⟩) (k + 1) cap1))
            have HP := hid hP
            clear hP
            go_wp2_with fail
            go_meet
            exact ⟨_, _, HP.out, hB1.out⟩
        case rest =>
        obtain ⟨vF', xF', hN, hb⟩ := hcut
        clear HN HB bA zA nA cA hA c0 c1 hxl hbl
        obtain ⟨bA, zA, nA, cA⟩ := wz_facts Z wc HZ.out
        have hA := hN.below bA
        obtain ⟨c0, c1, hxl⟩ := hN.c
        have HN := hid hN
        have hbl := hb.size
        have HB := hid hb
        clear hN hb
        go_upto_region 6 with fail
        go_region_law (refine step_pushR rfl _ _ rfl w.heap.size vW k xW rfl ?hown _ (.slice (some ⟨wc.heap.size, 0, none⟩) 256 256) rfl ?hc rfl (by omega) ?hbase ?_; (case hown => exact hA.oW); (case hc => exact cA); (case hbase => exact Nat.le_trans hbl bA.size); intro g1 cap1 w1 own1 hg1 hg2; obtain ⟨s0, s1⟩ := hA.afterW hg1; have hP := hA.pushW nA hg1 own1 hg2; obtain ⟨q0, q1, _⟩ := hP.c)
        all_goals
          have hB1 := hid ((((HB.out.trans (bA.mono hbl)).grown hg1 (Nat.le_trans hbl bA.size) (fun g e => (own_blk hA.oW e).1))).setCell (p := ⟨x, 1, none⟩) (hA.lo_ x (by simp)) (.slice (some ⟨g1, 0, none⟩) (k + 1) cap1))
          have HP := hid hP
          clear hP
          go_wp2_with fail
          go_roundw
          case rel => exact ⟨k + 1, _, _, _, _, by omega, by go_num, HP.out, hB1.out⟩
          case measure => simp [RowKit.intOf]; omega
      · obtain rfl : k = b := by omega
        have HR := hid (show ∃ G R, RAt wr w.heap.size x G R ∧ Rel (Dv.new k) R from hN.done h1 h2)
        have HB := hid hb
        clear hN hb
        go_wp2_with fail
        go_ret
        obtain ⟨G, R, r1, r2⟩ := HR.out
        exact ⟨x, G, R, rfl, r1, r2, HB.out⟩
end Go.Proofs.YtagbnacffiagcaaDoor.RDevW

namespace Go.Proofs.YtagbnacffiagcaaDoor.DevG
open Go Go.RowKit Go.Maps Go.Proofs.YtagbnacffiagcaaDoor.Mem Go.Proofs.YtagbnacffiagcaaDoor.MapsW Go.Proofs.YtagbnacffiagcaaDoor.SeeW
set_option linter.unusedVariables false
set_option maxRecDepth 100000

theorem down_w (d lo n : Nat) (m : Mp) (D : Dv) (w : World) (h : At w lo d n m D) :
    Calls Tryd.prog 51 #[ptr d] w fun e w' => e = .returned (.bool D.down) ∧ w = w' := by
  obtain ⟨c0, c1, c2, c3, c4, c5, c6, c7, c8, f6, f2, f7, f8⟩ := h.c
  go_enter Tryd.func51, Tryd.ntmps51
  go_wp2
  go_ret
  exact ⟨rfl, rfl⟩
theorem calls_w (d lo n : Nat) (m : Mp) (D : Dv) (w : World) (h : At w lo d n m D) :
    Calls Tryd.prog 54 #[ptr d] w fun e w' => e = .returned (.int .i64 D.calls) ∧ w = w' := by
  obtain ⟨c0, c1, c2, c3, c4, c5, c6, c7, c8, f6, f2, f7, f8⟩ := h.c
  go_enter Tryd.func54, Tryd.ntmps54
  go_wp2
  go_ret
  exact ⟨rfl, rfl⟩
theorem ever_w (d lo n : Nat) (m : Mp) (D : Dv) (w : World) (h : At w lo d n m D) :
    Calls Tryd.prog 56 #[ptr d] w fun e w' => e = .returned (.int .i64 D.ne) ∧ w = w' := by
  obtain ⟨c0, c1, c2, c3, c4, c5, c6, c7, c8, f6, f2, f7, f8⟩ := h.c
  obtain ⟨E, hE, hnp⟩ := h.be.len
  have hl := hE.len Tryd.underlying121 3
  rw [hnp] at hl
  clear h hE hnp
  go_enter Tryd.func56, Tryd.ntmps56
  go_wp2
  go_ret
  exact ⟨rfl, rfl⟩
theorem arm_w (d lo n : Nat) (m : Mp) (D : Dv) (i : Nat) (w : World) (h : At w lo d n m D) (hi : i ≤ 1000000) :
    Calls Tryd.prog 41 #[ptr d, .int .i64 i] w fun e w' => e = .returned (.tuple #[]) ∧ At w' lo d n m { D with fuse := i } ∧ Turn [d] w w' := by
  obtain ⟨c0, c1, c2, c3, c4, c5, c6, c7, c8, f6, f2, f7, f8⟩ := h.c
  go_enter Tryd.func41, Tryd.ntmps41
  go_wp2
  refine bodyPost_end (v := .tuple #[]) (by simp [results, Tryd.results41, go_sem]) rfl ?_
  exact ⟨rfl, h.setFuse i, Turn.setCell w d 7 _ (by simp)⟩
theorem arm_any (d lo n : Nat) (m : Mp) (D : Dv) (i : Int) (w : World) (h : At w lo d n m D) (hi : Fits i) :
    Calls Tryd.prog 41 #[ptr d, .int .i64 i] w fun e w' => e = .returned (.tuple #[]) ∧ At w' lo d n m { D with fuse := i.toNat } ∧ Turn (own d m) w w' := by
  obtain ⟨c0, c1, c2, c3, c4, c5, c6, c7, c8, f6, f2, f7, f8⟩ := h.c
  by_cases h0 : 0 ≤ i
  · have h2 := h.setFuse i.toNat
    rw [show ((i.toNat : Nat) : Int) = i by omega] at h2
    have H := hid h2
    clear h h2
    go_enter Tryd.func41, Tryd.ntmps41
    go_wp2
    all_goals first | (exfalso; omega) | skip
    refine bodyPost_end (v := .tuple #[]) (by simp [results, Tryd.results41, go_sem]) rfl ?_
    refine ⟨rfl, ?_, Turn.setCell w d 7 _ (mem_own d m).1⟩
    first | exact H.out | (rw [show max i 0 = i by omega]; exact H.out)
  · have h2 := h.setFuse i.toNat
    rw [show ((i.toNat : Nat) : Int) = 0 by omega] at h2
    have H := hid h2
    clear h h2
    go_enter Tryd.func41, Tryd.ntmps41
    go_wp2
    all_goals first | (exfalso; omega) | skip
    refine bodyPost_end (v := .tuple #[]) (by simp [results, Tryd.results41, go_sem]) rfl ?_
    refine ⟨rfl, ?_, Turn.setCell w d 7 _ (mem_own d m).1⟩
    first | exact H.out | (rw [show max i 0 = 0 by omega]; exact H.out)
theorem raw_no (d lo n : Nat) (m : Mp) (D : Dv) (i : Int) (a : Option Addr) (len cap : Nat) (w : World) (h : At w lo d n m D) (hf : Fits i) (hl : len ≤ 100000) (hno : ¬ (0 ≤ i ∧ i < D.blocks) ∨ len ≠ 256) :
    Calls Tryd.prog 47 #[ptr d, .int .i64 i, .slice a len cap] w fun e w' => e = .returned (.bool false) ∧ w = w' := by
  by_cases hi : 0 ≤ i ∧ i < D.blocks
  · have hd : decide (0 ≤ i ∧ i < D.blocks) = true := decide_eq_true hi
    have hx : ((len : Int) != 256) = true := by rw [bne_iff_ne]; rcases hno with q | q; exact absurd hi q; omega
    clear hi hno
    go_enter Tryd.func47, Tryd.ntmps47
    go_wp2_with fail
    refine (is_w d lo n m D i _ h hf).mono ?_
    rintro e w' ⟨rfl, rfl⟩
    rw [hd]
    go_wp2
    go_ret
    exact ⟨rfl, rfl⟩
  · have hd : decide (0 ≤ i ∧ i < D.blocks) = false := decide_eq_false hi
    clear hi hno
    go_enter Tryd.func47, Tryd.ntmps47
    go_wp2_with fail
    refine (is_w d lo n m D i _ h hf).mono ?_
    rintro e w' ⟨rfl, rfl⟩
    rw [hd]
    go_wp2
    go_ret
    exact ⟨rfl, rfl⟩
end Go.Proofs.YtagbnacffiagcaaDoor.DevG

namespace Go.Proofs.YtagbnacffiagcaaDoor.DevG
open Go Go.RowKit Go.Maps Go.Proofs.YtagbnacffiagcaaDoor.Mem Go.Proofs.YtagbnacffiagcaaDoor.MapsW Go.Proofs.YtagbnacffiagcaaDoor.SeeW
set_option linter.unusedVariables false
set_option maxRecDepth 100000

theorem rows_copied {w w' : World} {base b c n np : Nat} {F : Int → Option (List Nat)} (h : RowMap w base b n F np) (hb : Below w.heap.size w w') {o : Obj} (h1 : w.heap[b]? = some o) (h2 : w'.heap[c]? = some o) : RowMap w' base c n F np := by
  obtain ⟨D, ⟨es, ck, k1, k2⟩, k3, k4⟩ := h
  obtain rfl := Option.some.inj (h1.symm.trans k1)
  refine ⟨D, ⟨es, ck, h2, k2⟩, k3, fun i => ?_⟩
  have := k4 i
  cases hF : F i with
  | none => rw [hF] at this; exact this
  | some l =>
    rw [hF] at this
    obtain ⟨a, g, cap, b1, b2, b3⟩ := this
    exact ⟨a, g, cap, b1, b2.below hb, b3⟩
theorem bools_copied {w w' : World} {b c n : Nat} {F : Int → Bool} (h : BoolMap w b n F) {o : Obj} (h1 : w.heap[b]? = some o) (h2 : w'.heap[c]? = some o) : BoolMap w' c n F := by
  obtain ⟨D, ⟨es, ck, k1, k2⟩, k3⟩ := h
  obtain rfl := Option.some.inj (h1.symm.trans k1)
  exact ⟨D, ⟨es, ck, h2, k2⟩, k3⟩
theorem sets_copied {w w' : World} {b c n k : Nat} {F : Int → Bool} (h : SetMap w b n F k) {o : Obj} (h1 : w.heap[b]? = some o) (h2 : w'.heap[c]? = some o) : SetMap w' c n F k := by
  obtain ⟨D, ⟨es, ck, k1, k2⟩, k3, k4⟩ := h
  obtain rfl := Option.some.inj (h1.symm.trans k1)
  exact ⟨D, ⟨es, ck, h2, k2⟩, k3, k4⟩
/-- a map copied: the new one's block -/
def Copied (b : Nat) (o : Obj) (w : World) (e : Ending) (w' : World) : Prop := e = .returned (.map (some w.heap.size)) ∧ w'.heap[w.heap.size]? = some o ∧ Below w.heap.size w w' ∧ w'.heap.size = w.heap.size + 1
theorem copied {b : Nat} {es : Array MapEntry} {ck : Nat} {w : World} {e : Ending} {w' : World} (h : e = .returned (.map (some w.heap.size)) ∧ w' = w.alloc (.map es ck)) : Copied b (.map es ck) w e w' := by
  obtain ⟨h1, rfl⟩ := h
  exact ⟨h1, heap_alloc_new _ _, (Below.refl _ _).alloc (Nat.le_refl _) _, by simp⟩
theorem cloneRows_w (b : Nat) (es : Array MapEntry) (ck : Nat) (w : World) (hb : w.heap[b]? = some (.map es ck)) :
    Calls Tryd.prog 90 #[.map (some b)] w (Copied b (.map es ck) w) :=
  (AnyW.maps_Clone Tryd.cloneA b es ck w hb).mono fun e w' h => copied h
theorem cloneBools_w (b : Nat) (es : Array MapEntry) (ck : Nat) (w : World) (hb : w.heap[b]? = some (.map es ck)) :
    Calls Tryd.prog 91 #[.map (some b)] w (Copied b (.map es ck) w) :=
  (AnyW.maps_Clone Tryd.cloneB b es ck w hb).mono fun e w' h => copied h
theorem cells9 {w : World} {d : Nat} {v0 v1 v2 v3 v4 v5 v6 v7 v8 : Value} {t : TypeId} (h : w.heap[d]? = some (.cells #[v0, v1, v2, v3, v4, v5, v6, v7, v8] t)) :
    w.cell? ⟨d, 1, none⟩ = some v1 ∧ w.cell? ⟨d, 2, none⟩ = some v2 ∧ w.cell? ⟨d, 3, none⟩ = some v3 ∧ w.cell? ⟨d, 4, none⟩ = some v4 ∧ w.cell? ⟨d, 5, none⟩ = some v5 ∧ w.frozen? ⟨d, 1, none⟩ = false ∧ w.frozen? ⟨d, 2, none⟩ = false ∧ w.frozen? ⟨d, 3, none⟩ = false ∧ w.frozen? ⟨d, 4, none⟩ = false ∧ w.frozen? ⟨d, 5, none⟩ = false := by
  simp [World.cell?, World.frozen?, h]
theorem cell_far {w : World} {d x j k : Nat} {u v : Value} (h : d ≠ x) (hc : w.cell? ⟨d, k, none⟩ = some u) : (w.setCell ⟨x, j, none⟩ v).cell? ⟨d, k, none⟩ = some u :=
  (World.cell?_of_block (w := w) (heap_setCell_other w ⟨x, j, none⟩ d v h)).trans hc
set_option maxHeartbeats 3200000 in
theorem clone_w (d lo n : Nat) (m : Mp) (D : Dv) (w : World) (h : At w lo d n m D) :
    Calls Tryd.prog 35 #[ptr d] w fun e w' => ∃ d' m', e = .returned (ptr d') ∧ At w' w.heap.size d' n m' D ∧ Below w.heap.size w w' := by
  obtain ⟨k, hk⟩ := h.rf
  obtain ⟨es1, ck1, o1⟩ := hk.block
  obtain ⟨es2, ck2, o2⟩ := h.rp.block
  obtain ⟨es3, ck3, o3⟩ := h.ba.block
  obtain ⟨es4, ck4, o4⟩ := h.bi.block
  obtain ⟨es5, ck5, o5⟩ := h.be.block
  obtain ⟨c0, c1, c2, c3, c4, c5, c6, c7, c8, f6, f2, f7, f8⟩ := h.c
  have hdc := h.cells
  have H := hid h
  clear h hk
  go_enter Tryd.func35, Tryd.ntmps35
  go_wp2_with fail
  have B1 := (Below.refl w.heap.size w).alloc (Nat.le_refl _) (.cells (cellsOf m D) 123)
  have x1 := heap_alloc_new w (.cells (cellsOf m D) 123)
  have z1 : (w.alloc (.cells (cellsOf m D) 123)).heap.size = w.heap.size + 1 := by simp
  have HB := hid B1
  have keepd : ∀ {a b : World}, Below a.heap.size a b → ∀ {q : Nat} {o : Obj}, a.heap[q]? = some o → b.heap[q]? = some o := fun hb _ _ hq => (hb.block _ (Array.getElem?_eq_some_iff.1 hq).1).trans hq
  have hdc1 := B1.block d (Array.getElem?_eq_some_iff.1 hdc).1 |>.trans hdc
  have o11 := B1.block m.f (Array.getElem?_eq_some_iff.1 o1).1 |>.trans o1
  have o21 := B1.block m.p (Array.getElem?_eq_some_iff.1 o2).1 |>.trans o2
  clear c0 c1 c2 c3 c4 c5 c6 c7 c8 f6 f2 f7 f8 B1
  change Code.wp _ _ _ _ (w.alloc (.cells (cellsOf m D) 123))
  generalize w.alloc (.cells (cellsOf m D) 123) = W1 at *
  obtain ⟨c1, c2, c3, c4, c5, _⟩ := cells9 hdc1
  have hne : d ≠ w.heap.size := Nat.ne_of_lt (Array.getElem?_eq_some_iff.1 hdc).1
  have hf := fun w hb => cloneRows_w m.f es1 ck1 w hb
  have hp := fun w hb => cloneRows_w m.p es2 ck2 w hb
  go_region_held3 (fun w' => w'.cell? ⟨d, 1, none⟩ = some (.map (some m.f)) ∧ w'.cell? ⟨d, 2, none⟩ = some (.map (some m.p))) (first | exact ⟨c1, c2⟩ | exact ⟨k1, k2⟩ | exact ⟨l1, l2⟩ | exact ⟨cell_far hne l1, cell_far hne l2⟩ | exact ⟨cell_far hne (cell_far hne l1), cell_far hne (cell_far hne l2)⟩ | go_keep)
    (first
      | (go_at_call 90; refine (hf _ (keepd (below_drewN (Below.refl _ _) 1) o11)).mono ?_; rintro e w3 ⟨rfl, n1, b3, s3⟩; have k1 := kept b3 c1; have k2 := kept b3 c2)
      | (go_at_call 90; refine (hp _ (keepd b3 (keepd (below_drewN (Below.refl _ _) 1) o21))).mono ?_; rintro e w4 ⟨rfl, n2, b4, s4⟩; have l1 := kept b4 k1; have l2 := kept b4 k2; have x4 := keepd b4 (keepd b3 (keepd (below_drewN (Below.refl _ _) 1) x1)); obtain ⟨r1, r2, r3, r4, r5, r6, r7, r8, r9, r10⟩ := cells9 x4))
  have e1 : (W1.drewN 1).heap.size = w.heap.size + 1 := z1
  have e3 : w3.heap.size = w.heap.size + 2 := by rw [s3, e1]
  have e4 : w4.heap.size = w.heap.size + 3 := by rw [s4, e3]
  rw [e1] at n1
  rw [e3] at n2
  have B4 : Below w.heap.size w w4 := ((below_drewN HB.out 1).trans (b3.mono (by omega))).trans (b4.mono (by omega))
  have x5 : ((w4.setCell ⟨w.heap.size, 1, none⟩ (.map (some (w.heap.size + 1)))).setCell ⟨w.heap.size, 2, none⟩ (.map (some (w.heap.size + 1 + 1)))).heap[w.heap.size]? = some (.cells (cellsOf ⟨w.heap.size + 1, w.heap.size + 2, m.a, m.i, m.e⟩ D) 123) := by
    simp [World.setCell, Array.getElem?_modify, x4]
  have y5 := (heap_setCell_other (w4.setCell ⟨w.heap.size, 1, none⟩ (.map (some (w.heap.size + 1)))) ⟨w.heap.size, 2, none⟩ (w.heap.size + 1) (.map (some (w.heap.size + 1 + 1))) (by simp)).trans ((heap_setCell_other w4 ⟨w.heap.size, 1, none⟩ (w.heap.size + 1) (.map (some (w.heap.size + 1))) (by simp)).trans (keepd b4 n1))
  have z5 := (heap_setCell_other (w4.setCell ⟨w.heap.size, 1, none⟩ (.map (some (w.heap.size + 1)))) ⟨w.heap.size, 2, none⟩ (w.heap.size + 2) (.map (some (w.heap.size + 1 + 1))) (by simp)).trans ((heap_setCell_other w4 ⟨w.heap.size, 1, none⟩ (w.heap.size + 2) (.map (some (w.heap.size + 1))) (by simp)).trans n2)
  have B5 := (B4.setCell (p := ⟨w.heap.size, 1, none⟩) (Nat.le_refl _) (.map (some (w.heap.size + 1)))).setCell (p := ⟨w.heap.size, 2, none⟩) (Nat.le_refl _) (.map (some (w.heap.size + 1 + 1)))
  have q5 : ((w4.setCell ⟨w.heap.size, 1, none⟩ (.map (some (w.heap.size + 1)))).setCell ⟨w.heap.size, 2, none⟩ (.map (some (w.heap.size + 1 + 1)))).heap.size = w.heap.size + 3 := by simp [e4]
  clear n1 n2 b3 b4 s3 s4 k1 k2 l1 l2 x4 r1 r2 r3 r4 r5 r6 r7 r8 r9 r10 hf hp c1 c2 c3 c4 c5 o11 o21 hdc1 x1 z1 e1 e3 e4 B4 HB
  generalize (w4.setCell ⟨w.heap.size, 1, none⟩ (.map (some (w.heap.size + 1)))).setCell ⟨w.heap.size, 2, none⟩ (.map (some (w.heap.size + 1 + 1))) = W5 at *
  have HB := hid B5
  have hd5 := B5.block d (Array.getElem?_eq_some_iff.1 hdc).1 |>.trans hdc
  have o35 := B5.block m.a (Array.getElem?_eq_some_iff.1 o3).1 |>.trans o3
  have o45 := B5.block m.i (Array.getElem?_eq_some_iff.1 o4).1 |>.trans o4
  have o55 := B5.block m.e (Array.getElem?_eq_some_iff.1 o5).1 |>.trans o5
  clear B5
  obtain ⟨c1, c2, c3, c4, c5, _⟩ := cells9 hd5
  have ha := fun w hb => cloneBools_w m.a es3 ck3 w hb
  have hi := fun w hb => cloneBools_w m.i es4 ck4 w hb
  have he := fun w hb => cloneBools_w m.e es5 ck5 w hb
  go_wp2_with fail
  go_region_held3 (fun w' => w'.cell? ⟨d, 3, none⟩ = some (.map (some m.a)) ∧ w'.cell? ⟨d, 4, none⟩ = some (.map (some m.i)) ∧ w'.cell? ⟨d, 5, none⟩ = some (.map (some m.e))) (first | exact ⟨c3, c4, c5⟩ | exact ⟨k1, k2, k3⟩ | exact ⟨l1, l2, l3⟩ | exact ⟨j1, j2, j3⟩ | exact ⟨cell_far hne j1, cell_far hne j2, cell_far hne j3⟩ | exact ⟨cell_far hne (cell_far hne j1), cell_far hne (cell_far hne j2), cell_far hne (cell_far hne j3)⟩ | exact ⟨cell_far hne (cell_far hne (cell_far hne j1)), cell_far hne (cell_far hne (cell_far hne j2)), cell_far hne (cell_far hne (cell_far hne j3))⟩ | go_keep)
    (first
      | (go_at_call 91; refine (ha _ (keepd (below_drewN (Below.refl _ _) 1) o35)).mono ?_; rintro e w6 ⟨rfl, n1, b6, s6⟩; have k1 := kept b6 c3; have k2 := kept b6 c4; have k3 := kept b6 c5)
      | (go_at_call 91; refine (hi _ (keepd b6 (keepd (below_drewN (Below.refl _ _) 1) o45))).mono ?_; rintro e w7 ⟨rfl, n2, b7, s7⟩; have l1 := kept b7 k1; have l2 := kept b7 k2; have l3 := kept b7 k3)
      | (go_at_call 91; refine (he _ (keepd b7 (keepd b6 (keepd (below_drewN (Below.refl _ _) 1) o55)))).mono ?_; rintro e w8 ⟨rfl, n3, b8, s8⟩; have j1 := kept b8 l1; have j2 := kept b8 l2; have j3 := kept b8 l3; have x8 := keepd b8 (keepd b7 (keepd b6 (keepd (below_drewN (Below.refl _ _) 1) x5))); obtain ⟨r1, r2, r3, r4, r5, r6, r7, r8, r9, r10⟩ := cells9 x8))
  have e5 : (W5.drewN 1).heap.size = w.heap.size + 3 := q5
  have e6 : w6.heap.size = w.heap.size + 4 := by rw [s6, e5]
  have e7 : w7.heap.size = w.heap.size + 5 := by rw [s7, e6]
  have e8 : w8.heap.size = w.heap.size + 6 := by rw [s8, e7]
  rw [e5] at n1
  rw [e6] at n2
  rw [e7] at n3
  have B8 : Below w.heap.size w w8 := (((below_drewN HB.out 1).trans (b6.mono (by omega))).trans (b7.mono (by omega))).trans (b8.mono (by omega))
  have fin : ∀ (u1 u2 u3 : Value), Turn [w.heap.size] w8 (((w8.setCell ⟨w.heap.size, 3, none⟩ u1).setCell ⟨w.heap.size, 4, none⟩ u2).setCell ⟨w.heap.size, 5, none⟩ u3) := fun u1 u2 u3 => ((Turn.setCell w8 w.heap.size 3 u1 (by simp)).then (Turn.setCell _ _ _ _ (by simp))).then (Turn.setCell _ _ _ _ (by simp))
  have y8 := keepd b8 (keepd b7 (keepd b6 (keepd (below_drewN (Below.refl _ _) 1) y5)))
  have z8 := keepd b8 (keepd b7 (keepd b6 (keepd (below_drewN (Below.refl _ _) 1) z5)))
  have v1 := keepd b8 (keepd b7 n1)
  have v2 := keepd b8 n2
  have x9 : (((w8.setCell ⟨w.heap.size, 3, none⟩ (.map (some (w.heap.size + 3)))).setCell ⟨w.heap.size, 4, none⟩ (.map (some (w.heap.size + 4)))).setCell ⟨w.heap.size, 5, none⟩ (.map (some (w.heap.size + 5)))).heap[w.heap.size]? = some (.cells (cellsOf ⟨w.heap.size + 1, w.heap.size + 2, w.heap.size + 3, w.heap.size + 4, w.heap.size + 5⟩ D) 123) := by
    simp [World.setCell, Array.getElem?_modify, x8]
  have F := fin (.map (some (w.heap.size + 3))) (.map (some (w.heap.size + 4))) (.map (some (w.heap.size + 5)))
  have B9 := B8.trans (F.below B8.size (fun x hx => by rw [List.mem_singleton.1 hx]; exact Nat.le_refl _))
  have cp : ∀ {k : Nat} {o : Obj}, k ≠ w.heap.size → w8.heap[k]? = some o → (((w8.setCell ⟨w.heap.size, 3, none⟩ (.map (some (w.heap.size + 3)))).setCell ⟨w.heap.size, 4, none⟩ (.map (some (w.heap.size + 4)))).setCell ⟨w.heap.size, 5, none⟩ (.map (some (w.heap.size + 5)))).heap[k]? = some o := fun hk ho => (F.block _ (Array.getElem?_eq_some_iff.1 ho).1 (by simpa using hk)).trans ho
  have HF := hid (show At (((w8.setCell ⟨w.heap.size, 3, none⟩ (.map (some (w.heap.size + 3)))).setCell ⟨w.heap.size, 4, none⟩ (.map (some (w.heap.size + 4)))).setCell ⟨w.heap.size, 5, none⟩ (.map (some (w.heap.size + 5)))) w.heap.size w.heap.size n ⟨w.heap.size + 1, w.heap.size + 2, w.heap.size + 3, w.heap.size + 4, w.heap.size + 5⟩ D by
    obtain ⟨kk, hkk⟩ := H.out.rf
    exact ⟨x9, ⟨kk, rows_copied hkk B9 o1 (cp (k := w.heap.size + 1) (by omega) y8)⟩, rows_copied H.out.rp B9 o2 (cp (k := w.heap.size + 2) (by omega) z8), bools_copied H.out.ba o3 (cp (k := w.heap.size + 3) (by omega) v1), bools_copied H.out.bi o4 (cp (k := w.heap.size + 4) (by omega) v2), sets_copied H.out.be o5 (cp (k := w.heap.size + 5) (by omega) n3), by simp [Mp.list], Nat.le_refl _, fun x hx => by simp [Mp.list] at hx; omega⟩)
  have HB9 := hid B9
  clear n1 n2 n3 b6 b7 b8 s6 s7 s8 k1 k2 k3 l1 l2 l3 j1 j2 j3 x8 r1 r2 r3 r4 r5 r6 r7 r8 r9 r10 ha hi he c1 c2 c3 c4 c5 y8 z8 v1 v2 x9 F B9 cp fin B8 x5 y5 z5 e5 e6 e7 e8
  go_wp2_with fail
  go_ret
  exact ⟨_, _, rfl, HF.out, HB9.out⟩
end Go.Proofs.YtagbnacffiagcaaDoor.DevG

namespace Go.Proofs.YtagbnacffiagcaaDoor.BlobW
open Go Go.RowKit Go.Proofs.YtagbnacffiagcaaDoor.Mem
set_option linter.unusedVariables false
set_option maxRecDepth 100000

/-- a slice of a block's bytes, new -/
def NewBlock (w : World) (l : List Nat) (e : Ending) (w' : World) : Prop := ∃ g cap, e = .returned (.slice (some ⟨g, 0, none⟩) 256 cap) ∧ Nums .u8 w' (some ⟨g, 0, none⟩) 256 cap l ∧ w.heap.size ≤ g ∧ Below w.heap.size w w'
set_option maxHeartbeats 1600000 in
theorem full_w (a : Option Addr) (n cap : Nat) (l : List Nat) (w : World) (h0 : Nums .u8 w a n cap l) (hn : n ≤ 256) :
    Calls Tryd.prog 64 #[.slice a n cap] w (NewBlock w (Crc.pad l)) := by
  have hll := h0.len
  have HL := hid hll
  obtain ⟨cb1, cb2⟩ := h0.bound
  go_enter Tryd.func64, Tryd.ntmps64
  go_wp2_with (at_make; go_must (refine wpList_mkn RefW.elU8 rfl _ _ rfl w.heap.size _ _ _ _ 256 rfl rfl rfl rfl (by decide) (by decide) (Nat.le_refl _) ?_); intro w2 own2 hg2)
  rw [RefW.made_nums] at own2
  have g2 := below_growns hg2 (Nat.le_refl _)
  clear hg2
  go_loopw [4] (fun i wr => ∃ k : Nat, k ≤ n ∧ i = .int .i64 k ∧ OwnN wr w.heap.size 5 .u8 w.heap.size 256 256 (l.take k ++ List.replicate (256 - k) 0) ∧ Below w.heap.size w wr) (fun i _ => n - (intOf i).toNat)
  case atStart => exact ⟨0, by omega, rfl, by simpa using own2, g2⟩
  case round =>
    clear own2 g2
    obtain ⟨k, hk, rfl, hown, hb⟩ := hrel
    by_cases hlt : k < n
    · have hkl : k < l.length := by rw [HL.out]; exact hlt
      have HF := hid (Crc.pad_set hkl (by rw [HL.out]; exact hn))
      obtain ⟨b0, o0, rfl, hc0⟩ := (h0.below hb).at hkl
      generalize l[k] = x at hc0 HF
      have hlen : (l.take k ++ List.replicate (256 - k) 0).length = 256 := OwnN.len hown
      obtain ⟨y, hy⟩ : ∃ y, wr.cell? ⟨w.heap.size, k, none⟩ = some y := ⟨_, OwnN.cell hown (j := k) (by omega)⟩
      have hf := World.ownsRow.frozenAt hown k
      have k256 : (k : Int) < 256 := by omega
      have HO := hid hown
      clear hown hlen hll
      go_wp2
      go_roundw
      case rel => exact ⟨k + 1, by omega, by go_num, by rw [← HF.out]; exact OwnN.set HO.out k x, hb.setCell (Nat.le_refl _) _⟩
      case measure => simp [intOf]; omega
    · obtain rfl : k = n := by omega
      rw [List.take_of_length_le (by omega)] at hown
      have HO := hid hown
      have e : l ++ List.replicate (256 - k) 0 = Crc.pad l := by unfold Crc.pad; rw [hll]
      clear hown
      go_wp2
      go_ret
      rw [e] at HO
      exact ⟨_, _, rfl, OwnN.nums HO.out, Nat.le_refl _, hb⟩

theorem own_heap {w : World} {base g n : Nat} {l : List Nat} (h : OwnN w base 5 .u8 g n n l) : w.heap[g]? = some (.cells (nums .u8 l).toArray 5 (0, 0)) := by
  have hl := h.len
  rcases h.2 with ⟨e, _⟩ | ⟨g', c, cur, e, _, hg, _, _, hcs, htk⟩
  · cases e
  · cases e
    rw [hg]
    congr 2
    apply Array.ext'
    rw [List.take_of_length_le (by rw [Array.length_toList, hcs]; omega)] at htk
    exact htk
theorem heap_own {w : World} {base g : Nat} {l : List Nat} (hg : w.heap[g]? = some (.cells (nums .u8 l).toArray 5 (0, 0))) (hb : base ≤ g) (hl : l.length = 256) : OwnN w base 5 .u8 g 256 256 l :=
  ⟨by simp [nums, hl], .inr ⟨g, 256, (nums .u8 l).toArray, rfl, hb, hg, Nat.le_refl _, by unfold maxLen; omega, by simp [nums, hl], by rw [List.take_of_length_le (by simp [nums, hl])]⟩⟩
theorem splice_nums (l m : List Nat) (i : Nat) : splice (nums .u8 l) i (nums .u8 m) = nums .u8 (splice l i m) := by
  simp [splice, nums, List.map_take, List.map_drop]

theorem src {w : World} {a : Option Addr} {n c : Nat} {l : List Nat} (h : Nums .u8 w a n c l) (hn : 0 < n) : ∃ ad, a = some ad ∧ ∀ j v, (nums .u8 l)[j]? = some v → w.cell? (ad.add j) = some v := by
  obtain ⟨b0, o0, rfl, _⟩ := h.at (j := 0) (by rw [h.len]; exact hn)
  exact ⟨_, rfl, fun j v hj => by rw [Addr.add_lit]; exact Row.cell h hj⟩
theorem splice_pad {l : List Nat} : splice (List.replicate 256 0) 0 l = Crc.pad l := by
  unfold splice Crc.pad
  rw [List.take_zero, List.nil_append, List.drop_replicate, Nat.zero_add]
end Go.Proofs.YtagbnacffiagcaaDoor.BlobW

namespace Go.Proofs.YtagbnacffiagcaaDoor.DevL
open Go Go.RowKit Go.Maps Go.Proofs.YtagbnacffiagcaaDoor.Mem Go.Proofs.YtagbnacffiagcaaDoor.MapsW Go.Proofs.YtagbnacffiagcaaDoor.SeeW Go.Proofs.YtagbnacffiagcaaDoor.DevG Go.Proofs.YtagbnacffiagcaaDoor.BlobW Go.Proofs.YtagbnacffiagcaaDoor.Ints
set_option linter.unusedVariables false
set_option maxRecDepth 100000

theorem ev_of {w : World} {bs : List Addr} (h : SeeW.Bs w bs) (I : List Nat) (hI : ∀ i ∈ I, i < 24) : Ev w w.heap.size bs I := by
  obtain ⟨h1, h2, h3⟩ := h
  refine ⟨fun i hi g hg => ?_, fun i hi j hj e => (List.getElem?_inj (by rw [h1]; exact hI i hi) h2).1 e⟩
  obtain ⟨a, ha, hA⟩ := h3 i g hg
  exact ⟨a, ha, hA, World.block_lt_of_cell? w ⟨g, 0, none⟩ hA.1, hA.lt⟩
/-- a block of one byte -/
def wh (b : Nat) : List Nat := List.replicate 256 b
theorem wh_bytes {b : Nat} (h : b < 256) : Crc.Bytes (wh b) := fun x hx => by rw [(List.mem_replicate.1 hx).2]; exact h
theorem wh_length (b : Nat) : (wh b).length = 256 := List.length_replicate
theorem wh_ne {a b : Nat} (h : a ≠ b) : wh a ≠ wh b := fun e => h (by
  have := congrArg (fun l => l[0]?) e
  simpa [wh] using this)
theorem wh_set {k b : Nat} (h : k < 256) : (List.replicate k b ++ List.replicate (256 - k) 0).set k b = List.replicate (k + 1) b ++ List.replicate (256 - (k + 1)) 0 := by
  have e : List.replicate (256 - k) (0 : Nat) = 0 :: List.replicate (256 - (k + 1)) 0 := by
    rw [show 256 - k = (256 - (k + 1)) + 1 by omega, List.replicate_succ]
  rw [e, List.set_append_right _ _ (by simp), List.length_replicate, Nat.sub_self, List.set_cons_zero, List.replicate_succ', List.append_assoc]
  rfl
set_option maxHeartbeats 1600000 in
theorem whole_w (b : Nat) (w : World) : Calls Tryd.prog 38 #[.int .u8 b] w (NewBlock w (wh b)) := by
  go_enter Tryd.func38, Tryd.ntmps38
  go_wp2_with (at_make; go_must (refine wpList_mkn RefW.elU8 rfl _ _ rfl w.heap.size _ _ _ _ 256 rfl rfl rfl rfl (by decide) (by decide) (Nat.le_refl _) ?_); intro w2 own2 hg2)
  rw [RefW.made_nums] at own2
  have g2 := below_growns hg2 (Nat.le_refl _)
  clear hg2
  go_loopw [4] (fun i wr => ∃ k : Nat, k ≤ 256 ∧ i = .int .i64 k ∧ OwnN wr w.heap.size 5 .u8 w.heap.size 256 256 (List.replicate k b ++ List.replicate (256 - k) 0) ∧ Below w.heap.size w wr) (fun i _ => 256 - (RowKit.intOf i).toNat)
  case atStart => exact ⟨0, by omega, rfl, by simpa using own2, g2⟩
  case round =>
    clear own2 g2
    obtain ⟨k, hk, rfl, hown, hb⟩ := hrel
    by_cases hlt : k < 256
    · have HF := hid (wh_set (b := b) hlt)
      have hlen : (List.replicate k b ++ List.replicate (256 - k) 0).length = 256 := OwnN.len hown
      obtain ⟨y, hy⟩ : ∃ y, wr.cell? ⟨w.heap.size, k, none⟩ = some y := ⟨_, OwnN.cell hown (j := k) (by omega)⟩
      have hf := World.ownsRow.frozenAt hown k
      have k256 : (k : Int) < 256 := by omega
      have HO := hid hown
      clear hown hlen
      go_wp2
      go_roundw
      case rel => exact ⟨k + 1, by omega, by go_num, by rw [← HF.out]; exact OwnN.set HO.out k b, hb.setCell (Nat.le_refl _) _⟩
      case measure => simp [RowKit.intOf]; omega
    · obtain rfl : k = 256 := by omega
      have e : List.replicate 256 b ++ List.replicate (256 - 256) 0 = wh b := by unfold wh; rw [Nat.sub_self, List.replicate_zero, List.append_nil]
      rw [e] at hown
      have HO := hid hown
      clear hown e
      go_wp2
      go_ret
      exact ⟨_, _, rfl, OwnN.nums HO.out, Nat.le_refl _, hb⟩
/-- a call by its contract, in a region that draws its order -/
theorem step_calls {P : Program} {ops : Array Oper} {o : Oper} {a : Act} {K : Act → World → Prop} {Q : Exit → Act → World → Prop} {E : Prop} {w : World} (hw : Region.wanted o (yielded ops a.tmps) = true)
    (f : FuncId) (args : Array Value) (hrun : (execOp a.eval o).run P w = .ok (.enter f args) w) (R : Value) (S : World → Prop) (hc : Calls P f args w fun e w' => e = .returned R ∧ S w') (h : ∀ w', S w' → K (a.put o.dst R) w') :
    if Region.wanted o (yielded ops a.tmps) = true then Oper.wp P o a w K Q else E := by
  rw [if_pos hw]
  unfold Oper.wp
  rw [hrun, Oper.upon_enter]
  refine hc.mono ?_
  rintro e w' ⟨rfl, hs⟩
  exact h w' hs
theorem get_some {D : Dv} (hd : D.down = false) {i : Int} (hi : 0 ≤ i ∧ i < (D.blocks : Int)) {l : List Nat} (hr : D.read i = some l) : D.get i = .ok l := by
  unfold Dv.get
  rw [hd, if_neg (by decide), if_pos hi, hr]
theorem get_none {D : Dv} (hd : D.down = false) {i : Int} (hi : 0 ≤ i ∧ i < (D.blocks : Int)) (hr : D.read i = none) : D.get i = .error 6 := by
  unfold Dv.get
  rw [hd, if_neg (by decide), if_pos hi, hr]
theorem get_out {D : Dv} (hd : D.down = false) {i : Int} (hi : ¬ (0 ≤ i ∧ i < (D.blocks : Int))) : D.get i = .error 4 := by
  unfold Dv.get
  rw [hd, if_neg (by decide), if_neg hi]
theorem Is.nil (w : World) : Is w none 0 0 [] := ⟨rfl, Nat.le_refl _, Nat.zero_le _, fun _ => rfl, fun j u h => by simp [ints] at h⟩
theorem sel_nil (ks : List Int) (i : Int) : sel ks [] i = false := by
  unfold sel
  rw [List.any_eq_false]
  intro x _
  simp [pick]
/-- nothing is picked: what was pending is gone -/
theorem crash_none (D : Dv) (ks : List Int) : D.crash ks [] = { D with pe := fun _ => none, np := 0, down := false, fuse := 0 } := by
  unfold Dv.crash
  simp only [sel_nil]
  rfl
set_option maxHeartbeats 3200000 in
theorem first_w (bs : List Addr) (w : World) (hB : Ev w w.heap.size bs five) : Calls Tryd.prog 32 #[] w fun e w' => e = .returned (.bool true) ∧ Below w.heap.size w w' := by
  go_enter Tryd.func32, Tryd.ntmps32
  go_wp2_with fail
  refine (new_w 4 w (by decide) (by decide)).mono ?_
  rintro e w1 ⟨rfl, h1, b1, z1⟩
  go_wp2_with fail
  refine (whole_w 5 w1).mono ?_
  rintro e w2 ⟨g, gc, rfl, hn, hg, b2⟩
  have h2 := h1.below b2
  have B2 := b1.trans (b2.mono b1.size)
  have hw := write_ok _ _ _ _ _ 1 _ gc (wh 5) w2 h2 (by decide) (by decide) hn (by decide) (by decide) (by decide) rfl
  clear h1 b1 b2 hn hg z1
  go_wp2_with fail
  refine hw.mono ?_
  rintro e w3 ⟨rfl, h3, t3⟩
  have B3 := B2.trans (t3.below B2.size h2.own_lo)
  have hc := crash_w _ _ _ _ _ none 0 0 [] w3 h3 (fun w' _ => Is.nil w') (by decide) (by decide)
  clear hw h2 t3 B2
  go_wp2_with fail
  refine hc.mono ?_
  rintro e w4 ⟨rfl, ks, p', hK, hp', h4, t4⟩
  have B4 := B3.trans (t4.below B3.size h3.own_lo)
  rw [crash_none] at h4
  have hr := read_w bs _ _ _ _ _ 1 w4 h4 (hB.below B4) (by decide)
  have HB4 := hid B4
  have hget : Dv.get { ((Dv.new 4).tick.put ((1 : Nat) : Int) (wh 5)) with pe := fun _ => none, np := 0, down := false, fuse := 0 } 1 = .ok (wh 0) := rfl
  rw [hget] at hr
  clear hc h3 t4 B3 h4 B4 hK hget
  go_wp2_with fail
  refine hr.mono ?_
  rintro e w5 ⟨⟨g5, gc5, rfl, n5, _⟩, b5⟩
  have B5 := hid (HB4.out.trans (b5.mono HB4.out.size))
  have N5 := hid n5
  clear hr n5 b5 HB4
  go_wp2_with fail
  refine (whole_w 0 w5).mono ?_
  rintro e w6 ⟨g6, gc6, rfl, n6, _, b6⟩
  have hsm := RefW.same_w _ 256 gc5 _ _ 256 gc6 _ w6 (N5.out.below b6) n6
  rw [decide_eq_true rfl] at hsm
  have B6 := hid (B5.out.trans (b6.mono B5.out.size))
  clear n6 b6 N5 B5
  go_wp2_with fail
  refine hsm.mono ?_
  rintro e w7 ⟨rfl, b7⟩
  have B7 := B6.out.trans (b7.mono B6.out.size)
  clear hsm b7 B6
  go_wp2_with fail
  go_ret
  exact ⟨rfl, B7⟩
end Go.Proofs.YtagbnacffiagcaaDoor.DevL

namespace Go.Proofs.YtagbnacffiagcaaDoor.Mem
open Go Go.RowKit Go.ChangeShapes Go.WideShapes Go.Deep
set_option linter.unusedVariables false

section
variable {H : Type} {enc : TypeId × Value → H} {P : Program} {w : World} {base : Nat} {spare : Nat → Bool} {held : Bool}
/-- v is a slice of len structs of the fields fs: each field's cell reads by the field's type -/
def Structs (enc : TypeId × Value → H) (P : Program) (w : World) (base : Nat) (spare : Nat → Bool) (held : Bool) (fs : Array Field) (o : Option Addr) (len cap : Nat) : Prop :=
  (o = none ∧ len = 0 ∧ cap = 0) ∨ ∃ a : Addr, o = some a ∧ base ≤ a.block ∧ len ≤ cap ∧ cap ≤ maxLen ∧
    ∀ i, i < len → ∀ (j : Nat) (f : Field), fs[j]? = some f → ∃ (x : Value) (n : Nat) (y : DataW H × List MemPlace), w.cell? (a.add (i * fs.size + j)) = some x ∧ DataW.trod enc P w base spare held n f.type [x] = some y
theorem open_structs {t e : TypeId} {fs : Array Field} {fuel : Nat} {cs : List Value} {x : DataW H × List MemPlace} (ht : P.underlying t = some (.slice e)) (he : P.underlying e = some (.struct fs))
    (ce : P.cellsOf e = fs.size) (hoff : ∀ (j : Nat) (f : Field), fs[j]? = some f → f.offset = j ∧ P.cellsOf f.type = 1) (h : DataW.trod enc P w base spare held fuel t cs = some x) :
    ∃ (o : Option Addr) (len cap : Nat), cs = [.slice o len cap] ∧ Structs enc P w base spare held fs o len cap := by
  rcases open_slice ht h with ⟨rfl, rfl⟩ | ⟨a, len, cap, m, n, D, Pl, rfl, hb, hl, hm, hmm, rfl, hx⟩
  · exact ⟨none, 0, 0, rfl, .inl ⟨rfl, rfl, rfl⟩⟩
  · refine ⟨some a, len, cap, rfl, .inr ⟨a, rfl, hb, hl, hm, fun i hi j f hf => ?_⟩⟩
    have hlm : len ≤ m := by rw [hmm]; split <;> omega
    obtain ⟨cs', h1, h2⟩ := hx i (by omega)
    rw [ce] at h1
    obtain ⟨_, hlen, hcell⟩ := World.cells?_some h1
    obtain ⟨xs, k, hk, hxy, _, hxl, hfld⟩ := DataW.trod_struct he h2
    have hjs : j < fs.size := (Array.getElem?_eq_some_iff.1 hf).1
    obtain ⟨o0, c0⟩ := hoff j f hf
    have e0 := hcell j (by omega)
    rw [add_add] at e0
    have g0 := hfld j f hf
    rw [o0, c0] at g0
    have hjl : j < cs'.length := by omega
    rw [List.getElem?_eq_getElem hjl] at e0
    rw [List.drop_eq_getElem_cons hjl, List.take_succ_cons, List.take_zero, List.getElem?_eq_getElem (by omega)] at g0
    exact ⟨_, _, _, e0, g0⟩
end
end Go.Proofs.YtagbnacffiagcaaDoor.Mem

namespace Go.Proofs.YtagbnacffiagcaaDoor.Mem
open Go Go.RowKit Go.ChangeShapes Go.WideShapes Go.Deep Go.Proofs.YtagbnacffiagcaaDoor.Ints
set_option linter.unusedVariables false

/-- the i-th of them -/
structure D7 (w : World) (b o i : Nat) (K N A : Int) (B T : Nat) (s : Option Addr) (sl sc : Nat) (l : List Nat) (p : Option Addr) (pl pc : Nat) (zs : List Int) : Prop where
  c0 : w.cell? ⟨b, o + i * 7, none⟩ = some (.int .i64 K)
  c1 : w.cell? ⟨b, o + i * 7 + 1, none⟩ = some (.int .i64 N)
  c2 : w.cell? ⟨b, o + i * 7 + 2, none⟩ = some (.int .i64 A)
  c3 : w.cell? ⟨b, o + i * 7 + 3, none⟩ = some (.int .u8 (B : Int))
  c4 : w.cell? ⟨b, o + i * 7 + 4, none⟩ = some (.int .u32 (T : Int))
  c5 : w.cell? ⟨b, o + i * 7 + 5, none⟩ = some (.slice s sl sc)
  c6 : w.cell? ⟨b, o + i * 7 + 6, none⟩ = some (.slice p pl pc)
  nums : Nums .u8 w s sl sc l
  bytes : ∀ x ∈ l, x < 256
  is : Is w p pl pc zs
  k64 : -9223372036854775808 ≤ K ∧ K ≤ 9223372036854775807
  n64 : -9223372036854775808 ≤ N ∧ N ≤ 9223372036854775807
  a64 : -9223372036854775808 ≤ A ∧ A ≤ 9223372036854775807
  b8 : B < 256
  t32 : T < 4294967296
theorem D7.below {w w' : World} {b o i : Nat} {K N A : Int} {B T : Nat} {s : Option Addr} {sl sc : Nat} {l : List Nat} {p : Option Addr} {pl pc : Nat} {zs : List Int} (h : D7 w b o i K N A B T s sl sc l p pl pc zs) (hb : Below w.heap.size w w') : D7 w' b o i K N A B T s sl sc l p pl pc zs :=
  ⟨kept hb h.c0, kept hb h.c1, kept hb h.c2, kept hb h.c3, kept hb h.c4, kept hb h.c5, kept hb h.c6, h.nums.below hb, h.bytes, h.is.below hb, h.k64, h.n64, h.a64, h.b8, h.t32⟩
theorem d7_at {H : Type} {enc : TypeId × Value → H} {w : World} {fs : Array Field} {a0 : Option Addr} {len0 cap0 : Nat} (h : Structs enc Tryd.prog w 0 (fun _ => true) true fs a0 len0 cap0)
    (hfs : fs.toList.map (·.type) = [3, 3, 3, 5, 30, 28, 54]) {i : Nat} (hi : i < len0) :
    ∃ b o, a0 = some ⟨b, o, none⟩ ∧ ∃ K N A B T s sl sc l p pl pc zs, D7 w b o i K N A B T s sl sc l p pl pc zs := by
  rcases h with ⟨rfl, rfl, rfl⟩ | ⟨a, rfl, hb, hl, hm, hx⟩
  · omega
  have hsz : fs.size = 7 := by
    have := congrArg List.length hfs
    simpa using this
  have hf : ∀ (j : Nat) (t : TypeId), ([3, 3, 3, 5, 30, 28, 54] : List TypeId)[j]? = some t → ∃ f : Field, fs[j]? = some f ∧ f.type = t := by
    intro j t ht
    rw [← hfs, List.getElem?_map] at ht
    obtain ⟨f, hf, rfl⟩ := Option.map_eq_some_iff.1 ht
    exact ⟨f, by rw [← Array.getElem?_toList]; exact hf, rfl⟩
  obtain ⟨f0, g0, t0⟩ := hf 0 _ rfl
  obtain ⟨f1, g1, t1⟩ := hf 1 _ rfl
  obtain ⟨f2, g2, t2⟩ := hf 2 _ rfl
  obtain ⟨f3, g3, t3⟩ := hf 3 _ rfl
  obtain ⟨f4, g4, t4⟩ := hf 4 _ rfl
  obtain ⟨f5, g5, t5⟩ := hf 5 _ rfl
  obtain ⟨f6, g6, t6⟩ := hf 6 _ rfl
  have ex := hx i hi
  rw [hsz] at ex
  obtain ⟨x0, m0, y0, c0, d0⟩ := ex 0 f0 g0
  obtain ⟨x1, m1, y1, c1, d1⟩ := ex 1 f1 g1
  obtain ⟨x2, m2, y2, c2, d2⟩ := ex 2 f2 g2
  obtain ⟨x3, m3, y3, c3, d3⟩ := ex 3 f3 g3
  obtain ⟨x4, m4, y4, c4, d4⟩ := ex 4 f4 g4
  obtain ⟨x5, m5, y5, c5, d5⟩ := ex 5 f5 g5
  obtain ⟨x6, m6, y6, c6, d6⟩ := ex 6 f6 g6
  rw [t0] at d0
  rw [t1] at d1
  rw [t2] at d2
  rw [t3] at d3
  rw [t4] at d4
  rw [t5] at d5
  rw [t6] at d6
  obtain ⟨K, e0, _, k0⟩ := DataW.trod_int Tryd.underlying3 d0
  obtain ⟨N, e1, _, k1⟩ := DataW.trod_int Tryd.underlying3 d1
  obtain ⟨A, e2, _, k2⟩ := DataW.trod_int Tryd.underlying3 d2
  obtain ⟨B, e3, _, k3⟩ := DataW.trod_int Tryd.underlying5 d3
  obtain ⟨T, e4, _, k4⟩ := DataW.trod_int Tryd.underlying30 d4
  cases e0; cases e1; cases e2; cases e3; cases e4
  obtain ⟨b, o, spot⟩ := a
  have hs : spot = none := by
    have ez := hx 0 (by omega) 0 f0 g0
    obtain ⟨z0, _, _, cz, _⟩ := ez
    have := World.cell?_spot cz
    rw [Nat.zero_mul, Nat.zero_add] at this
    exact this
  subst hs
  simp only [Addr.add_lit] at c0 c1 c2 c3 c4 c5 c6
  have hB := nat_of (k := .u8) rfl k3
  have hT := nat_of (k := .u32) rfl k4
  have c3' : w.cell? ⟨b, o + i * 7 + 3, none⟩ = some (.int .u8 ((B.toNat : Nat) : Int)) := by
    rw [Int.toNat_of_nonneg hB.1]; exact c3
  have c4' : w.cell? ⟨b, o + i * 7 + 4, none⟩ = some (.int .u32 ((T.toNat : Nat) : Int)) := by
    rw [Int.toNat_of_nonneg hT.1]; exact c4
  have row : ∃ s sl sc l, x5 = .slice s sl sc ∧ Nums .u8 w s sl sc l ∧ ∀ x ∈ l, x < 256 := by
    rcases open_ints (k := .u8) Tryd.underlying28 Tryd.underlying5 (by kernel_rfl) d5 with ⟨e4, _⟩ | ⟨q, ln, cp, zs, e4, _, q1, q2, q3, _, q4, q5⟩
    · cases e4
      exact ⟨none, 0, 0, [], rfl, Nums.nil _ _, by simp⟩
    · cases e4
      obtain ⟨l, h1, h2⟩ := nums_of (k := .u8) rfl (w := w) (a := some q) (len := ln) (cap := cp) (zs := zs) (.inr ⟨q, rfl, q1, q2, by simpa using q3, q4, q5⟩)
      exact ⟨some q, ln, cp, l, rfl, h1, h2⟩
  have row2 : ∃ s sl sc zs, x6 = .slice s sl sc ∧ Is w s sl sc zs := by
    rcases open_ints (k := .i64) Tryd.underlying54 Tryd.underlying3 (by kernel_rfl) d6 with ⟨e4, _⟩ | ⟨q, ln, cp, zs, e4, _, q1, q2, q3, _, q4, q5⟩
    · cases e4
      obtain ⟨l, h, _⟩ := is_of (w := w) (a := none) (len := 0) (cap := 0) (zs := []) (.inl ⟨rfl, rfl, rfl, rfl⟩)
      exact ⟨none, 0, 0, l, rfl, h⟩
    · cases e4
      obtain ⟨l, h, _⟩ := is_of (w := w) (a := some q) (len := ln) (cap := cp) (zs := zs) (.inr ⟨q, rfl, q1, q2, by simpa using q3, q4, q5⟩)
      exact ⟨some q, ln, cp, l, rfl, h⟩
  obtain ⟨s, sl, sc, l, rfl, n1, n2⟩ := row
  obtain ⟨p, pl, pc, zs, rfl, i1⟩ := row2
  exact ⟨b, o, rfl, K, N, A, B.toNat, T.toNat, s, sl, sc, l, p, pl, pc, zs, c0, c1, c2, c3', c4', c5, c6, n1, n2, i1, int_of k0, int_of k1, int_of k2, hB.2, hT.2⟩
end Go.Proofs.YtagbnacffiagcaaDoor.Mem

namespace Go.Proofs.YtagbnacffiagcaaDoor.DevG
open Go Go.Maps Go.Proofs.YtagbnacffiagcaaDoor.MapsW
set_option linter.unusedVariables false

structure Nx (D D' : Dv) : Prop where
  blocks : D'.blocks = D.blocks
  calls : D'.calls ≤ D.calls + 1
  fuse : D'.fuse ≤ 9223372036854775807
  ok : Ok D'
variable {D : Dv}
theorem Ok.tick (h : Ok D) : Ok D.tick := by
  obtain ⟨_, e2, e3, _⟩ := D.tick_same
  exact ⟨fun j l hj => h.fl j l (by rw [← e2]; exact hj), fun j l hj => h.pe j l (by rw [← e3]; exact hj)⟩
theorem Nx.tick (h : Ok D) (hf : D.fuse ≤ 9223372036854775807) : Nx D D.tick := by
  obtain ⟨e1, e2, e3, e4, e5, e6, e7, e8, e9, e10⟩ := D.tick_same
  exact ⟨e1, by rw [e9]; omega, by omega, h.tick⟩
theorem Nx.write (h : Ok D) (hf : D.fuse ≤ 9223372036854775807) (i : Int) (n : Nat) (l : List Nat) (hl : n = 256 → Blk l) : Nx D (D.write i n l).2 := by
  have t := Nx.tick h hf
  obtain ⟨e1, e2, e3, e4, e5, e6, e7, e8, e9, e10⟩ := D.tick_same
  unfold Dv.write
  split
  · exact t
  · split
    · split
      · exact ⟨e1, by show D.tick.calls + 1 ≤ _; rw [e9]; exact Nat.le_refl _, t.fuse, t.ok.put (hl ‹_›)⟩
      · exact t
    · exact t
theorem Nx.flush (h : Ok D) (hf : D.fuse ≤ 9223372036854775807) : Nx D D.flushT.2 := by
  have t := Nx.tick h hf
  obtain ⟨e1, e2, e3, e4, e5, e6, e7, e8, e9, e10⟩ := D.tick_same
  unfold Dv.flushT
  split
  · exact t
  · exact ⟨e1, by show D.tick.calls + 1 ≤ _; rw [e9]; exact Nat.le_refl _, t.fuse, t.ok.flush⟩
theorem Nx.arm (h : Ok D) (i : Int) (hi : Fits i) : Nx D { D with fuse := i.toNat } := ⟨rfl, Nat.le_succ _, by unfold Fits at hi; show i.toNat ≤ _; omega, ⟨h.fl, h.pe⟩⟩
theorem Nx.crash (h : Ok D) (ks zs : List Int) : Nx D (D.crash ks zs) := by
  refine ⟨rfl, Nat.le_succ _, Nat.zero_le _, ⟨fun j l hj => ?_, fun j l hj => (by cases hj)⟩⟩
  change (if sel ks zs j then D.pe j else D.fl j) = some l at hj
  split at hj
  · exact h.pe j l hj
  · exact h.fl j l hj
theorem fault_same (D : Dv) (i : Int) : (D.fault i).blocks = D.blocks ∧ (D.fault i).calls = D.calls ∧ (D.fault i).fuse = D.fuse := ⟨rfl, rfl, rfl⟩
theorem Nx.spoil (h : Ok D) (hf : D.fuse ≤ 9223372036854775807) (i at_ : Int) (t : Nat) : Nx D (D.spoil i at_ t) := by
  have ho := h.spoil i at_ t
  revert ho
  unfold Dv.spoil
  split
  · exact fun ho => ⟨rfl, Nat.le_succ _, hf, ho⟩
  · exact fun ho => ⟨rfl, Nat.le_succ _, hf, ho⟩
theorem Nx.fail (h : Ok D) (hf : D.fuse ≤ 9223372036854775807) (i : Int) : Nx D (D.fail i) := by
  have ho := h.fail i
  revert ho
  unfold Dv.fail
  split
  · exact fun ho => ⟨rfl, Nat.le_succ _, hf, ho⟩
  · exact fun ho => ⟨rfl, Nat.le_succ _, hf, ho⟩
theorem Nx.raw (h : Ok D) (hf : D.fuse ≤ 9223372036854775807) (i : Int) (l : List Nat) (hl : Blk l) : Nx D (D.raw i l) := by
  refine ⟨rfl, Nat.le_succ _, hf, ⟨fun j x hj => ?_, fun j x hj => ?_⟩⟩
  · change upd D.fl i (some l) j = some x at hj
    by_cases e : j = i
    · subst e; rw [upd_same] at hj; cases hj; exact hl
    · rw [upd_other _ _ e] at hj; exact h.fl j x hj
  · change upd D.pe i none j = some x at hj
    by_cases e : j = i
    · subst e; rw [upd_same] at hj; cases hj
    · rw [upd_other _ _ e] at hj; exact h.pe j x hj
end Go.Proofs.YtagbnacffiagcaaDoor.DevG
