/- How all is to lie, in memory; The walk of a layout's take; Has a table a page? The library's ContainsFunc with laid's closure. -/
import Derived.Test.YtbjfgdahfpfgdaaGreatDoorPageFaultsP9
import Derived.Test.YtbjfgdahfpfgdaaGreatDoorPageFaultsP7
import Derived.Deep.AppendLies
import Derived.Test.YtbjfgdahfpfgdaaGreatDoorPageFaultsP5
namespace Go.Proofs.YtbjfgdahfpfgdaaGreatDoor.PgW
open Go Go.RowKit Go.Maps Go.Proofs.YtbjfgdahfpfgdaaGreatDoor.Mem Go.Proofs.YtbjfgdahfpfgdaaGreatDoor.MapsW Go.Proofs.YtbjfgdahfpfgdaaGreatDoor.DevG Go.Proofs.YtbjfgdahfpfgdaaGreatDoor.PgP Go.Proofs.YtbjfgdahfpfgdaaGreatDoor.RefsW
set_option linter.unusedVariables false
set_option maxRecDepth 100000

abbrev lcells (tb tc a : Nat) (vn vp vf : Value) : Array Value := #[.slice (some ⟨tb, 0, none⟩) 7 tc, .map (some a), vn, vp, vf]
/-- a slice's block -/
def blk (v : Value) : List Nat := v.ownBlock.toList
theorem blk_slice (g o n c : Nat) : blk (.slice (some ⟨g, o, none⟩) n c) = [g] := rfl
theorem blk_nil (n c : Nat) : blk (.slice none n c) = [] := rfl
/-- a layout in memory -/
structure LAt (w : World) (base n X tb tc a : Nat) (vn vp vf : Value) (x : Lay) : Prop where
  cells : w.heap[X]? = some (.cells (lcells tb tc a vn vp vf) 100)
  tabs : OwnRefs w base (.slice (some ⟨tb, 0, none⟩) 7 tc) 7 x.tabs
  at_ : ∃ k, RefMap w a n x.at_ k
  nt : w.ownsRow base 3 1 vn x.nt.length (nums .i64 x.nt)
  pg : w.ownsRow base 3 1 vp x.pg.length (nums .i64 x.pg)
  free : ∃ fa fc, vf = .slice fa x.free.length fc ∧ Nums .i64 w fa x.free.length fc x.free
  b0 : base ≤ X ∧ base ≤ a
  nd : (X :: a :: tb :: (blk vn ++ (blk vp ++ blk vf))).Nodup
  lt : ∀ b ∈ X :: a :: tb :: (blk vn ++ (blk vp ++ blk vf)), b < w.heap.size
theorem LAt.c {w : World} {base n X tb tc a : Nat} {vn vp vf : Value} {x : Lay} (h : LAt w base n X tb tc a vn vp vf x) :
    w.cell? ⟨X, 0, none⟩ = some (.slice (some ⟨tb, 0, none⟩) 7 tc) ∧ w.cell? ⟨X, 1, none⟩ = some (.map (some a)) ∧ w.cell? ⟨X, 2, none⟩ = some vn ∧ w.cell? ⟨X, 3, none⟩ = some vp ∧ w.cell? ⟨X, 4, none⟩ = some vf ∧ ∀ j, w.frozen? ⟨X, j, none⟩ = false := by
  have := h.cells
  simp [World.cell?, World.frozen?, this]
theorem row_grown {w w' : World} {base r : Nat} {e : TypeId} {size : Nat} {v : Value} {n : Nat} {xs : List Value} (h : w.ownsRow base e size v n xs) (hg : w.grownBy w' (some r)) (hr : r ∉ blk v) : w'.ownsRow base e size v n xs := by
  refine h.kept hg (.inr fun e => hr ?_)
  unfold blk
  rw [e]
  simp
theorem nums_grown {w w' : World} {r : Nat} {fa : Option Addr} {n c : Nat} {l : List Nat} (h : Nums .i64 w fa n c l) (hg : w.grownBy w' (some r)) (hr : r ∉ blk (.slice fa n c)) : Nums .i64 w' fa n c l :=
  Row.keep h fun b o e hlt => hg.block b hlt fun e2 => hr (by rw [e, blk_slice, ← Option.some.inj e2]; simp)
theorem grown_set (w : World) (b j : Nat) (v : Value) : w.grownBy (w.setCell ⟨b, j, none⟩ v) (some b) :=
  ⟨rfl, rfl, rfl, by simp, fun k hk hn => heap_setCell_other w ⟨b, j, none⟩ k v fun e => hn (by rw [e])⟩
theorem ref_grown {w w' : World} {b n k r : Nat} {F : Int → Option (Int × Nat)} (h : RefMap w b n F k) (hg : w.grownBy w' (some r)) (hr : b ≠ r) : RefMap w' b n F k := by
  obtain ⟨es, ck, hk⟩ := h.block
  exact h.still (hg.block b (Array.getElem?_eq_some_iff.1 hk).1 fun e => hr (Option.some.inj e))
/-- what writes elsewhere leaves it -/
theorem LAt.grown {w w' : World} {base n X tb tc a r : Nat} {vn vp vf : Value} {x : Lay} (h : LAt w base n X tb tc a vn vp vf x) (hg : w.grownBy w' (some r)) (hr : r ∉ X :: a :: tb :: (blk vn ++ (blk vp ++ blk vf))) : LAt w' base n X tb tc a vn vp vf x := by
  simp only [List.mem_cons, List.mem_append, not_or] at hr
  obtain ⟨r1, r2, r3, r4, r5, r6⟩ := hr
  obtain ⟨k, hk⟩ := h.at_
  obtain ⟨fa, fc, hv, hf⟩ := h.free
  refine ⟨(hg.block X (h.lt X (by simp)) (fun e => r1 (Option.some.inj e).symm)).trans h.cells, row_grown h.tabs hg (by rw [blk_slice]; simpa using r3), ⟨k, ref_grown hk hg (fun e => r2 e.symm)⟩, row_grown h.nt hg r4, row_grown h.pg hg r5, ⟨fa, fc, hv, nums_grown hf hg (by rw [← hv]; exact r6)⟩, h.b0, h.nd, fun b hb => Nat.lt_of_lt_of_le (h.lt b hb) hg.size⟩
theorem LAt.below {w w' : World} {base n X tb tc a : Nat} {vn vp vf : Value} {x : Lay} (h : LAt w base n X tb tc a vn vp vf x) (hb : Below w.heap.size w w') : LAt w' base n X tb tc a vn vp vf x :=
  h.grown (r := w.heap.size) ⟨hb.os, hb.tape, hb.output, hb.size, fun k hk _ => hb.block k hk⟩ fun hm => absurd (h.lt _ hm) (by omega)
/-- the places of pages are others -/
theorem LAt.setAt {w w' : World} {base n n' X tb tc a k' : Nat} {vn vp vf : Value} {x : Lay} {F : Int → Option Ref} (h : LAt w base n X tb tc a vn vp vf x) (hr : RefMap w' a n' F k') (hg : w.grownBy w' (some a)) : LAt w' base n' X tb tc a vn vp vf { x with at_ := F } := by
  have hnd := h.nd
  simp only [List.nodup_cons, List.mem_cons, List.mem_append, not_or] at hnd
  obtain ⟨⟨x1, x2, x3, x4, x5⟩, ⟨a1, a2, a3, a4⟩, _⟩ := hnd
  obtain ⟨fa, fc, hv, hf⟩ := h.free
  exact ⟨(hg.block X (h.lt X (by simp)) (fun e => x1 (Option.some.inj e))).trans h.cells, row_grown h.tabs hg (by rw [blk_slice]; simpa using a1), ⟨k', hr⟩, row_grown h.nt hg a2, row_grown h.pg hg a3, ⟨fa, fc, hv, nums_grown hf hg (by rw [← hv]; exact a4)⟩, h.b0, h.nd, fun b hb => Nat.lt_of_lt_of_le (h.lt b hb) hg.size⟩
/-- a table's place is another -/
theorem LAt.setTab {w : World} {base n X tb tc a : Nat} {vn vp vf : Value} {x : Lay} (h : LAt w base n X tb tc a vn vp vf x) (t : Nat) (r : Ref) :
    LAt ((w.setCell ⟨tb, t * 2, none⟩ (.int .i64 r.1)).setCell ⟨tb, t * 2 + 1, none⟩ (.int .u32 (r.2 : Int))) base n X tb tc a vn vp vf { x with tabs := x.tabs.set t r } := by
  have hnd := h.nd
  simp only [List.nodup_cons, List.mem_cons, List.mem_append, not_or] at hnd
  obtain ⟨⟨x1, x2, x3, x4, x5⟩, ⟨a1, a2, a3, a4⟩, ⟨t1, t2, t3⟩, _⟩ := hnd
  obtain ⟨fa, fc, hv, hf⟩ := h.free
  obtain ⟨k, hk⟩ := h.at_
  have hg : w.grownBy ((w.setCell ⟨tb, t * 2, none⟩ (.int .i64 r.1)).setCell ⟨tb, t * 2 + 1, none⟩ (.int .u32 (r.2 : Int))) (some tb) := (grown_set w tb (t * 2) _).trans (grown_set _ tb (t * 2 + 1) _)
  exact ⟨(hg.block X (h.lt X (by simp)) (fun e => x2 (Option.some.inj e))).trans h.cells, own_ref h.tabs t r, ⟨k, ref_grown hk hg a1⟩, row_grown h.nt hg t1, row_grown h.pg hg t2, ⟨fa, fc, hv, nums_grown hf hg (by rw [← hv]; exact t3)⟩, h.b0, h.nd, fun b hb => Nat.lt_of_lt_of_le (h.lt b hb) hg.size⟩
/-- one is taken -/
theorem LAt.setFree {w : World} {base n X tb tc a : Nat} {vn vp : Value} {x : Lay} {g o o' c f : Nat} {fs : List Nat} (h : LAt w base n X tb tc a vn vp (.slice (some ⟨g, o, none⟩) (fs.length + 1) c) x) (hf : x.free = f :: fs) (hn' : Nums .i64 w (some ⟨g, o', none⟩) fs.length (c - 1) fs) :
    LAt (w.setCell ⟨X, 4, none⟩ (.slice (some ⟨g, o', none⟩) fs.length (c - 1))) base n X tb tc a vn vp (.slice (some ⟨g, o', none⟩) fs.length (c - 1)) { x with free := fs } := by
  have hnd := h.nd
  rw [blk_slice] at hnd
  have hnd' := hnd
  simp only [List.nodup_cons, List.mem_cons, List.mem_append, not_or] at hnd
  obtain ⟨⟨x1, x2, x3, x4, x5⟩, _⟩ := hnd
  obtain ⟨fa, fc, hv, hn⟩ := h.free
  rw [hf] at hv hn
  cases hv
  obtain ⟨k, hk⟩ := h.at_
  have hg := grown_set w X 4 (.slice (some ⟨g, o', none⟩) fs.length (c - 1))
  have hc := h.cells
  refine ⟨by simp [World.setCell, Array.getElem?_modify, hc], row_grown h.tabs hg (by rw [blk_slice]; simpa using x2), ⟨k, ref_grown hk hg (fun e => x1 e.symm)⟩, row_grown h.nt hg x3, row_grown h.pg hg x4, ⟨_, _, rfl, ?_⟩, h.b0, by rw [blk_slice]; exact hnd', fun b hb => ?_⟩
  · exact nums_grown hn' hg (by rw [blk_slice]; simpa using x5)
  · rw [blk_slice] at hb
    have := h.lt b (by rw [blk_slice]; exact hb)
    simpa using this
theorem row_same {w w' : World} {base : Nat} {e : TypeId} {size : Nat} {v : Value} {n : Nat} {xs : List Value} (h : w.ownsRow base e size v n xs) (hs : ∀ g, v.ownBlock = some g → w'.heap[g]? = w.heap[g]?) : w'.ownsRow base e size v n xs := by
  obtain ⟨h1, h2 | ⟨g, c, cur, rfl, hb, hc, q⟩⟩ := h
  · exact ⟨h1, .inl h2⟩
  · exact ⟨h1, .inr ⟨g, c, cur, rfl, hb, (hs g rfl).trans hc, q⟩⟩
theorem nodup_put {L1 B L2 : List Nat} {g : Nat} (h : (L1 ++ (B ++ L2)).Nodup) (h1 : g ∉ L1) (h2 : g ∉ L2) : (L1 ++ ([g] ++ L2)).Nodup := by
  rw [List.nodup_append] at h ⊢
  obtain ⟨a1, a2, a3⟩ := h
  rw [List.nodup_append] at a2
  obtain ⟨b1, b2, b3⟩ := a2
  refine ⟨a1, ?_, ?_⟩
  · rw [List.singleton_append, List.nodup_cons]
    exact ⟨h2, b2⟩
  · intro x hx y hy e
    subst e
    rcases List.mem_append.1 hy with hy | hy
    · rw [List.mem_singleton.1 hy] at hx
      exact h1 hx
    · exact a3 x hx x (by simp [hy]) rfl
/-- a page's number is appended -/
theorem LAt.pushPg {w w1 : World} {base n X tb tc a : Nat} {vn vp vf : Value} {x : Lay} (h : LAt w base n X tb tc a vn vp vf x) {g' c' p q : Nat} (hq : q = x.pg.length + 1)
    (own' : w1.ownsRow base 3 1 (.slice (some ⟨g', 0, none⟩) q c') q (nums .i64 (x.pg ++ [p]))) (hg : w.grownBy w1 vp.ownBlock) (hat : vp.ownBlock = some g' ∨ g' = w.heap.size) (hlt : g' < w1.heap.size) :
    w1.cell? ⟨X, 3, none⟩ = some vp ∧ (∀ j, w1.frozen? ⟨X, j, none⟩ = false) ∧ LAt (w1.setCell ⟨X, 3, none⟩ (.slice (some ⟨g', 0, none⟩) q c')) base n X tb tc a vn (.slice (some ⟨g', 0, none⟩) q c') vf { x with pg := x.pg ++ [p] } := by
  subst hq
  obtain ⟨fa, fc, hv, hf⟩ := h.free
  obtain ⟨k, hk⟩ := h.at_
  have hnd := h.nd
  have hnd0 : ((X :: a :: tb :: blk vn) ++ (blk vp ++ blk vf)).Nodup := h.nd
  have hsep : ∀ b, b ∈ X :: a :: tb :: (blk vn ++ blk vf) → b ∉ blk vp := by
    intro b hb hm
    rw [List.nodup_append] at hnd0
    obtain ⟨_, a2, a3⟩ := hnd0
    rw [List.nodup_append] at a2
    rcases List.mem_append.1 (show b ∈ (X :: a :: tb :: blk vn) ++ blk vf from hb) with hb | hb
    · exact a3 b hb b (by simp [hm]) rfl
    · exact a2.2.2 b hm b hb rfl
  have hin : ∀ b, b ∈ X :: a :: tb :: (blk vn ++ blk vf) → b < w.heap.size := fun b hb => h.lt b (by
    simp only [List.mem_cons, List.mem_append] at hb ⊢
    rcases hb with hb | hb | hb | hb | hb <;> simp [hb])
  have hkeep : ∀ b, b ∈ X :: a :: tb :: (blk vn ++ blk vf) → w1.heap[b]? = w.heap[b]? := fun b hb => hg.block b (hin b hb) fun e => hsep b hb (by unfold blk; rw [← e]; simp)
  have hnew : ∀ b, b ∈ X :: a :: tb :: (blk vn ++ blk vf) → b ≠ g' := by
    rintro b hb rfl
    rcases hat with e | e
    · exact hsep b hb (by unfold blk; rw [e]; simp)
    · have := hin b hb; omega
  have hX := hkeep X (by simp)
  have hXc : w1.heap[X]? = some (.cells (lcells tb tc a vn vp vf) 100) := hX.trans h.cells
  have hset := grown_set w1 X 3 (.slice (some ⟨g', 0, none⟩) (x.pg.length + 1) c')
  simp only [List.nodup_cons, List.mem_cons, List.mem_append, not_or] at hnd
  obtain ⟨⟨x1, x2, x3, x4, x5⟩, _⟩ := hnd
  have hk2 : ∀ b, b ∈ X :: a :: tb :: (blk vn ++ blk vf) → b ≠ X → (w1.setCell ⟨X, 3, none⟩ (.slice (some ⟨g', 0, none⟩) (x.pg.length + 1) c')).heap[b]? = w.heap[b]? := fun b hb hne =>
    (hset.block b (Nat.lt_of_lt_of_le (hin b hb) hg.size) fun e => hne (Option.some.inj e)).trans (hkeep b hb)
  have hsz : w.heap.size ≤ w1.heap.size := hg.size
  refine ⟨by simp [World.cell?, hXc], fun j => by simp [World.frozen?, hXc], ⟨by simp [World.setCell, Array.getElem?_modify, hXc], row_same h.tabs (fun g e => hk2 g ?_ ?_), ⟨k, hk.still (hk2 a (by simp) (fun e => x1 e.symm))⟩, row_same h.nt (fun g e => hk2 g ?_ ?_), ?_, ⟨fa, fc, hv, ?_⟩, h.b0, ?_, ?_⟩⟩
  · have : tb = g := by simpa [Value.ownBlock] using e
    rw [← this]; simp
  · have : tb = g := by simpa [Value.ownBlock] using e
    rw [← this]; exact fun e => x2 e.symm
  · have : g ∈ blk vn := by unfold blk; rw [e]; simp
    simp [this]
  · have : g ∈ blk vn := by unfold blk; rw [e]; simp
    rintro rfl
    exact x3 this
  · have e : (x.pg ++ [p]).length = x.pg.length + 1 := by simp
    show World.ownsRow _ _ _ _ _ (x.pg ++ [p]).length _
    rw [e]
    refine row_grown own' hset ?_
    rw [blk_slice]
    simp only [List.mem_singleton]
    exact hnew X (by simp)
  · refine Row.keep hf fun b o e _ => hk2 b ?_ ?_
    · have : b ∈ blk vf := by rw [hv, e, blk_slice]; simp
      simp [this]
    · have : b ∈ blk vf := by rw [hv, e, blk_slice]; simp
      rintro rfl
      exact x5 this
  · rw [blk_slice]
    exact nodup_put (L1 := X :: a :: tb :: blk vn) hnd0 (fun hm => hnew g' (by simp only [List.mem_cons, List.mem_append] at hm ⊢; rcases hm with hm | hm | hm | hm <;> simp [hm]) rfl) (fun hm => hnew g' (by simp [hm]) rfl)
  · intro b hb
    rw [blk_slice] at hb
    simp only [List.mem_cons, List.mem_append, List.not_mem_nil, or_false] at hb
    have hs2 : (w1.setCell ⟨X, 3, none⟩ (.slice (some ⟨g', 0, none⟩) (x.pg.length + 1) c')).heap.size = w1.heap.size := by simp
    rw [hs2]
    rcases hb with hb | hb | hb | hb | hb | hb
    · exact Nat.lt_of_lt_of_le (hin b (by simp [hb])) hsz
    · exact Nat.lt_of_lt_of_le (hin b (by simp [hb])) hsz
    · exact Nat.lt_of_lt_of_le (hin b (by simp [hb])) hsz
    · exact Nat.lt_of_lt_of_le (hin b (by simp [hb])) hsz
    · rw [hb]; exact hlt
    · exact Nat.lt_of_lt_of_le (hin b (by simp [hb])) hsz
/-- a table's number is appended -/
theorem LAt.pushNt {w w1 : World} {base n X tb tc a : Nat} {vn vp vf : Value} {x : Lay} (h : LAt w base n X tb tc a vn vp vf x) {g' c' p q : Nat} (hq : q = x.nt.length + 1)
    (own' : w1.ownsRow base 3 1 (.slice (some ⟨g', 0, none⟩) q c') q (nums .i64 (x.nt ++ [p]))) (hg : w.grownBy w1 vn.ownBlock) (hat : vn.ownBlock = some g' ∨ g' = w.heap.size) (hlt : g' < w1.heap.size) :
    w1.cell? ⟨X, 2, none⟩ = some vn ∧ (∀ j, w1.frozen? ⟨X, j, none⟩ = false) ∧ LAt (w1.setCell ⟨X, 2, none⟩ (.slice (some ⟨g', 0, none⟩) q c')) base n X tb tc a (.slice (some ⟨g', 0, none⟩) q c') vp vf { x with nt := x.nt ++ [p] } := by
  subst hq
  obtain ⟨fa, fc, hv, hf⟩ := h.free
  obtain ⟨k, hk⟩ := h.at_
  have hnd := h.nd
  have hnd0 : ((X :: a :: [tb]) ++ (blk vn ++ (blk vp ++ blk vf))).Nodup := h.nd
  have hsep : ∀ b, b ∈ X :: a :: tb :: (blk vp ++ blk vf) → b ∉ blk vn := by
    intro b hb hm
    rw [List.nodup_append] at hnd0
    obtain ⟨_, a2, a3⟩ := hnd0
    rw [List.nodup_append] at a2
    rcases List.mem_append.1 (show b ∈ (X :: a :: [tb]) ++ (blk vp ++ blk vf) from hb) with hb | hb
    · exact a3 b hb b (by simp [hm]) rfl
    · exact a2.2.2 b hm b hb rfl
  have hin : ∀ b, b ∈ X :: a :: tb :: (blk vp ++ blk vf) → b < w.heap.size := fun b hb => h.lt b (by
    simp only [List.mem_cons, List.mem_append] at hb ⊢
    rcases hb with hb | hb | hb | hb | hb <;> simp [hb])
  have hkeep : ∀ b, b ∈ X :: a :: tb :: (blk vp ++ blk vf) → w1.heap[b]? = w.heap[b]? := fun b hb => hg.block b (hin b hb) fun e => hsep b hb (by unfold blk; rw [← e]; simp)
  have hnew : ∀ b, b ∈ X :: a :: tb :: (blk vp ++ blk vf) → b ≠ g' := by
    rintro b hb rfl
    rcases hat with e | e
    · exact hsep b hb (by unfold blk; rw [e]; simp)
    · have := hin b hb; omega
  have hX := hkeep X (by simp)
  have hXc : w1.heap[X]? = some (.cells (lcells tb tc a vn vp vf) 100) := hX.trans h.cells
  have hset := grown_set w1 X 2 (.slice (some ⟨g', 0, none⟩) (x.nt.length + 1) c')
  simp only [List.nodup_cons, List.mem_cons, List.mem_append, not_or] at hnd
  obtain ⟨⟨x1, x2, x3, x4, x5⟩, _⟩ := hnd
  have hk2 : ∀ b, b ∈ X :: a :: tb :: (blk vp ++ blk vf) → b ≠ X → (w1.setCell ⟨X, 2, none⟩ (.slice (some ⟨g', 0, none⟩) (x.nt.length + 1) c')).heap[b]? = w.heap[b]? := fun b hb hne =>
    (hset.block b (Nat.lt_of_lt_of_le (hin b hb) hg.size) fun e => hne (Option.some.inj e)).trans (hkeep b hb)
  have hsz : w.heap.size ≤ w1.heap.size := hg.size
  refine ⟨by simp [World.cell?, hXc], fun j => by simp [World.frozen?, hXc], ⟨by simp [World.setCell, Array.getElem?_modify, hXc], row_same h.tabs (fun g e => hk2 g ?_ ?_), ⟨k, hk.still (hk2 a (by simp) (fun e => x1 e.symm))⟩, ?_, row_same h.pg (fun g e => hk2 g ?_ ?_), ⟨fa, fc, hv, ?_⟩, h.b0, ?_, ?_⟩⟩
  · have : tb = g := by simpa [Value.ownBlock] using e
    rw [← this]; simp
  · have : tb = g := by simpa [Value.ownBlock] using e
    rw [← this]; exact fun e => x2 e.symm
  · have e : (x.nt ++ [p]).length = x.nt.length + 1 := by simp
    show World.ownsRow _ _ _ _ _ (x.nt ++ [p]).length _
    rw [e]
    refine row_grown own' hset ?_
    rw [blk_slice]
    simp only [List.mem_singleton]
    exact hnew X (by simp)
  · have : g ∈ blk vp := by unfold blk; rw [e]; simp
    simp [this]
  · have : g ∈ blk vp := by unfold blk; rw [e]; simp
    rintro rfl
    exact x4 this
  · refine Row.keep hf fun b o e _ => hk2 b ?_ ?_
    · have : b ∈ blk vf := by rw [hv, e, blk_slice]; simp
      simp [this]
    · have : b ∈ blk vf := by rw [hv, e, blk_slice]; simp
      rintro rfl
      exact x5 this
  · rw [blk_slice]
    exact nodup_put (L1 := X :: a :: [tb]) hnd0 (fun hm => hnew g' (by simp only [List.mem_cons, List.mem_append] at hm ⊢; rcases hm with hm | hm | hm | hm <;> first | (cases hm; done) | simp [hm]) rfl) (fun hm => hnew g' (by rcases List.mem_append.1 hm with hm | hm <;> simp [hm]) rfl)
  · intro b hb
    rw [blk_slice] at hb
    simp only [List.mem_cons, List.mem_append, List.not_mem_nil, or_false] at hb
    have hs2 : (w1.setCell ⟨X, 2, none⟩ (.slice (some ⟨g', 0, none⟩) (x.nt.length + 1) c')).heap.size = w1.heap.size := by simp
    rw [hs2]
    rcases hb with hb | hb | hb | hb | hb | hb
    · exact Nat.lt_of_lt_of_le (hin b (by simp [hb])) hsz
    · exact Nat.lt_of_lt_of_le (hin b (by simp [hb])) hsz
    · exact Nat.lt_of_lt_of_le (hin b (by simp [hb])) hsz
    · rw [hb]; exact hlt
    · exact Nat.lt_of_lt_of_le (hin b (by simp [hb])) hsz
    · exact Nat.lt_of_lt_of_le (hin b (by simp [hb])) hsz
/-- a free block's number is appended -/
theorem LAt.pushFree {w w1 : World} {base n X tb tc a : Nat} {vn vp vf : Value} {x : Lay} (h : LAt w base n X tb tc a vn vp vf x) {g' c' p q : Nat} (hq : q = x.free.length + 1)
    (own' : w1.ownsRow base 3 1 (.slice (some ⟨g', 0, none⟩) q c') q (nums .i64 (x.free ++ [p]))) (hg : w.grownBy w1 vf.ownBlock) (hat : vf.ownBlock = some g' ∨ g' = w.heap.size) (hlt : g' < w1.heap.size) :
    w1.cell? ⟨X, 4, none⟩ = some vf ∧ (∀ j, w1.frozen? ⟨X, j, none⟩ = false) ∧ LAt (w1.setCell ⟨X, 4, none⟩ (.slice (some ⟨g', 0, none⟩) q c')) base n X tb tc a vn vp (.slice (some ⟨g', 0, none⟩) q c') { x with free := x.free ++ [p] } ∧ (w1.setCell ⟨X, 4, none⟩ (.slice (some ⟨g', 0, none⟩) q c')).ownsRow base 3 1 (.slice (some ⟨g', 0, none⟩) q c') q (nums .i64 (x.free ++ [p])) := by
  subst hq
  obtain ⟨fa, fc, hv, hf⟩ := h.free
  obtain ⟨k, hk⟩ := h.at_
  have hnd := h.nd
  have hnd0 : ((X :: a :: tb :: (blk vn ++ blk vp)) ++ (blk vf ++ [])).Nodup := by simpa using h.nd
  have hsep : ∀ b, b ∈ X :: a :: tb :: (blk vn ++ blk vp) → b ∉ blk vf := by
    intro b hb hm
    rw [List.nodup_append] at hnd0
    obtain ⟨_, a2, a3⟩ := hnd0
    rw [List.nodup_append] at a2
    rcases List.mem_append.1 (show b ∈ (X :: a :: tb :: (blk vn ++ blk vp)) ++ [] by simpa using hb) with hb | hb
    · exact a3 b hb b (by simp [hm]) rfl
    · exact a2.2.2 b hm b hb rfl
  have hin : ∀ b, b ∈ X :: a :: tb :: (blk vn ++ blk vp) → b < w.heap.size := fun b hb => h.lt b (by
    simp only [List.mem_cons, List.mem_append] at hb ⊢
    rcases hb with hb | hb | hb | hb | hb <;> simp [hb])
  have hkeep : ∀ b, b ∈ X :: a :: tb :: (blk vn ++ blk vp) → w1.heap[b]? = w.heap[b]? := fun b hb => hg.block b (hin b hb) fun e => hsep b hb (by unfold blk; rw [← e]; simp)
  have hnew : ∀ b, b ∈ X :: a :: tb :: (blk vn ++ blk vp) → b ≠ g' := by
    rintro b hb rfl
    rcases hat with e | e
    · exact hsep b hb (by unfold blk; rw [e]; simp)
    · have := hin b hb; omega
  have hX := hkeep X (by simp)
  have hXc : w1.heap[X]? = some (.cells (lcells tb tc a vn vp vf) 100) := hX.trans h.cells
  have hset := grown_set w1 X 4 (.slice (some ⟨g', 0, none⟩) (x.free.length + 1) c')
  simp only [List.nodup_cons, List.mem_cons, List.mem_append, not_or] at hnd
  obtain ⟨⟨x1, x2, x3, x4, x5⟩, _⟩ := hnd
  have hk2 : ∀ b, b ∈ X :: a :: tb :: (blk vn ++ blk vp) → b ≠ X → (w1.setCell ⟨X, 4, none⟩ (.slice (some ⟨g', 0, none⟩) (x.free.length + 1) c')).heap[b]? = w.heap[b]? := fun b hb hne =>
    (hset.block b (Nat.lt_of_lt_of_le (hin b hb) hg.size) fun e => hne (Option.some.inj e)).trans (hkeep b hb)
  have hsz : w.heap.size ≤ w1.heap.size := hg.size
  have hown2 := row_grown own' hset (by rw [blk_slice]; simp only [List.mem_singleton]; exact hnew X (by simp))
  refine ⟨by simp [World.cell?, hXc], fun j => by simp [World.frozen?, hXc], ⟨by simp [World.setCell, Array.getElem?_modify, hXc], row_same h.tabs (fun g e => hk2 g ?_ ?_), ⟨k, hk.still (hk2 a (by simp) (fun e => x1 e.symm))⟩, row_same h.nt (fun g e => hk2 g ?_ ?_), row_same h.pg (fun g e => hk2 g ?_ ?_), ⟨some ⟨g', 0, none⟩, c', by simp, ?_⟩, h.b0, ?_, ?_⟩, hown2⟩
  · have : tb = g := by simpa [Value.ownBlock] using e
    rw [← this]; simp
  · have : tb = g := by simpa [Value.ownBlock] using e
    rw [← this]; exact fun e => x2 e.symm
  · have : g ∈ blk vn := by unfold blk; rw [e]; simp
    simp [this]
  · have : g ∈ blk vn := by unfold blk; rw [e]; simp
    rintro rfl
    exact x3 this
  · have : g ∈ blk vp := by unfold blk; rw [e]; simp
    simp [this]
  · have : g ∈ blk vp := by unfold blk; rw [e]; simp
    rintro rfl
    exact x4 this
  · have e : (x.free ++ [p]).length = x.free.length + 1 := by simp
    show Nums _ _ _ (x.free ++ [p]).length _ _
    rw [e]
    exact (Row.owned hown2).2
  · rw [blk_slice]
    have := nodup_put (L1 := X :: a :: tb :: (blk vn ++ blk vp)) hnd0 (fun hm => hnew g' hm rfl) (by simp)
    simpa using this
  · intro b hb
    rw [blk_slice] at hb
    simp only [List.mem_cons, List.mem_append, List.not_mem_nil, or_false] at hb
    have hs2 : (w1.setCell ⟨X, 4, none⟩ (.slice (some ⟨g', 0, none⟩) (x.free.length + 1) c')).heap.size = w1.heap.size := by simp
    rw [hs2]
    rcases hb with hb | hb | hb | hb | hb | hb
    · exact Nat.lt_of_lt_of_le (hin b (by simp [hb])) hsz
    · exact Nat.lt_of_lt_of_le (hin b (by simp [hb])) hsz
    · exact Nat.lt_of_lt_of_le (hin b (by simp [hb])) hsz
    · exact Nat.lt_of_lt_of_le (hin b (by simp [hb])) hsz
    · exact Nat.lt_of_lt_of_le (hin b (by simp [hb])) hsz
    · rw [hb]; exact hlt
end Go.Proofs.YtbjfgdahfpfgdaaGreatDoor.PgW

namespace Go.Proofs.YtbjfgdahfpfgdaaGreatDoor.PgW
open Go Go.RowKit Go.Maps Go.Proofs.YtbjfgdahfpfgdaaGreatDoor.Mem Go.Proofs.YtbjfgdahfpfgdaaGreatDoor.MapsW Go.Proofs.YtbjfgdahfpfgdaaGreatDoor.DevG Go.Proofs.YtbjfgdahfpfgdaaGreatDoor.PgP Go.Proofs.YtbjfgdahfpfgdaaGreatDoor.RefsW
set_option linter.unusedVariables false
set_option maxRecDepth 100000

theorem fz_of {w : World} {b : Nat} {cs : Array Value} {t : TypeId} (h : w.heap[b]? = some (.cells cs t)) (j : Nat) : w.frozen? ⟨b, j, none⟩ = false := by simp [World.frozen?, h]
theorem take_none (base n X tb tc a : Nat) (vn vp vf : Value) (x : Lay) (w : World) (h : LAt w base n X tb tc a vn vp vf x) (hf : x.free = []) (hb : base ≤ w.heap.size) :
    Calls Tryz.prog 83 #[ptr X] w fun e w' => e = .returned (.tuple #[refV (0, 0), .bool false]) ∧ LAt w' base n X tb tc a vn vp vf x ∧ Below w.heap.size w w' := by
  obtain ⟨fa, fc, hv, hn⟩ := h.free
  rw [hf] at hv
  have bx := (Below.refl w.heap.size w).alloc (Nat.le_refl _) (.cells #[.int .i64 0, .int .u32 0] 111)
  have c4 := (h.below bx).c.2.2.2.2.1
  rw [hv] at c4
  obtain ⟨x0, x1⟩ := new2 w (.int .i64 0) (.int .u32 0) 111
  have hr := heap_alloc_new w (.cells #[.int .i64 0, .int .u32 0] 111)
  have f0 := fz_of hr 0
  have f1 := fz_of hr 1
  have hF : ∀ u v, Below w.heap.size w (((w.alloc (.cells #[.int .i64 0, .int .u32 0] 111)).setCell ⟨w.heap.size, 0, none⟩ u).setCell ⟨w.heap.size, 1, none⟩ v) := fun u v => (bx.setCell (p := ⟨w.heap.size, 0, none⟩) (Nat.le_refl _) u).setCell (p := ⟨w.heap.size, 1, none⟩) (Nat.le_refl _) v
  have HF := hid hF
  have HH := hid h
  clear hF h hn hv hf hr
  go_enter Tryz.func83, Tryz.ntmps83
  go_wp2
  refine bodyPost_ret (v := .tuple #[refV (0, 0), .bool false]) (by simp [results, Tryz.results83, go_sem, x0, x1]) rfl ⟨rfl, HH.out.below ?_, ?_⟩ <;> first | exact HF.out _ _ | exact bx
set_option maxHeartbeats 1600000 in
theorem take_some (base n X tb tc a : Nat) (vn vp vf : Value) (x : Lay) (f : Nat) (fs : List Nat) (w : World) (h : LAt w base n X tb tc a vn vp vf x) (hf : x.free = f :: fs) (hb : base ≤ w.heap.size) :
    Calls Tryz.prog 83 #[ptr X] w fun e w' => e = .returned (.tuple #[refV ((f : Int), 0), .bool true]) ∧ (∃ vf', LAt w' base n X tb tc a vn vp vf' { x with free := fs } ∧ blk vf' = blk vf) ∧ Turn [X] w w' := by
  obtain ⟨fa, fc, hv, hn⟩ := h.free
  rw [hf, List.length_cons] at hv hn
  obtain ⟨b, o, rfl, hc⟩ := hn.at (j := 0) (by simp)
  have hcap := hn.bound
  rw [List.getElem_cons_zero, Nat.add_zero] at hc
  subst hv
  obtain ⟨o', ho'⟩ : ∃ o', o' = if fc = 1 then o else o + 1 := ⟨_, rfl⟩
  have hn' : Nums .i64 w (some ⟨b, o', none⟩) fs.length (fc - 1) fs := by
    by_cases h1 : fc = 1
    · have h0 : fs = [] := List.length_eq_zero_iff.1 (by omega)
      subst h0
      exact ⟨rfl, by simp, by unfold maxLen; omega, fun e => by simp at e, fun j u hj => by simp [nums] at hj⟩
    · rw [ho', if_neg h1]
      have h2 := RootW.nums_drop hn 1 (by simp)
      simpa using h2
  have hXlt := h.lt X (by simp)
  have c4 := h.c.2.2.2.2.1
  have fX := h.c.2.2.2.2.2 4
  have hbl : b < w.heap.size := World.block_lt_of_cell? w _ hc
  have hc9 := hcap.2
  have hL := h.setFree (o' := o') hf hn'
  have hg := grown_set w X 4 (.slice (some ⟨b, o', none⟩) fs.length (fc - 1))
  have hB : Turn [X] w (w.setCell ⟨X, 4, none⟩ (.slice (some ⟨b, o', none⟩) fs.length (fc - 1))) := Turn.setCell w X 4 _ (by simp)
  have hsz : (w.setCell ⟨X, 4, none⟩ (.slice (some ⟨b, o', none⟩) fs.length (fc - 1))).heap.size = w.heap.size := by simp
  have hFin : ∀ O : Obj, LAt (((w.setCell ⟨X, 4, none⟩ (.slice (some ⟨b, o', none⟩) fs.length (fc - 1))).alloc O).alloc O) base n X tb tc a vn vp (.slice (some ⟨b, o', none⟩) fs.length (fc - 1)) { x with free := fs } ∧ Turn [X] w (((w.setCell ⟨X, 4, none⟩ (.slice (some ⟨b, o', none⟩) fs.length (fc - 1))).alloc O).alloc O) := by
    intro O
    have b1 := ((Below.refl _ (w.setCell ⟨X, 4, none⟩ (.slice (some ⟨b, o', none⟩) fs.length (fc - 1)))).alloc (Nat.le_refl _) O).alloc (by simp) O
    exact ⟨hL.below b1, hB.then (Turn.of_below b1)⟩
  have HFIN := hid hFin
  clear hFin hL hg hB hsz h hn hn' hf
  obtain ⟨q, hq⟩ : ∃ q, q = fs.length + 1 := ⟨_, rfl⟩
  rw [← hq] at c4 hcap
  have hsub : q - 1 = fs.length := by omega
  have hq9 : q ≤ 9223372036854775807 := by omega
  have hd : (((q : Nat) : Int) == 0) = false := by rw [beq_eq_false_iff_ne]; omega
  have hq1 : 1 ≤ q := by omega
  clear hq
  go_enter Tryz.func83, Tryz.ntmps83
  rcases (by omega : fc = 1 ∨ 1 < fc) with h1 | h1
  · subst h1
    rw [if_pos rfl] at ho'
    subst ho'
    go_wp2
    obtain ⟨hL, hB⟩ := HFIN.out (.cells #[.int .i64 (f : Int), .int .u32 0] 111)
    simp only [Nat.sub_self] at hL hB
    exact bodyPost_ret (v := .tuple #[refV (f, 0), .bool true]) (by simp [results, Tryz.results83, go_sem]) rfl ⟨rfl, ⟨_, hL, rfl⟩, hB⟩
  · rw [if_neg (by omega)] at ho'
    subst ho'
    go_wp2
    obtain ⟨hL, hB⟩ := HFIN.out (.cells #[.int .i64 (f : Int), .int .u32 0] 111)
    exact bodyPost_ret (v := .tuple #[refV (f, 0), .bool true]) (by simp [results, Tryz.results83, go_sem]) rfl ⟨rfl, ⟨_, hL, rfl⟩, hB⟩
end Go.Proofs.YtbjfgdahfpfgdaaGreatDoor.PgW

namespace Go.Proofs.YtbjfgdahfpfgdaaGreatDoor.PgW
open Go Go.RowKit Go.Maps Go.Shelf Go.Proofs Go.Proofs.YtbjfgdahfpfgdaaGreatDoor.Mem Go.Proofs.YtbjfgdahfpfgdaaGreatDoor.MapsW Go.Proofs.YtbjfgdahfpfgdaaGreatDoor.DevG Go.Proofs.YtbjfgdahfpfgdaaGreatDoor.PgP Go.Proofs.YtbjfgdahfpfgdaaGreatDoor.Ints
set_option linter.unusedVariables false
set_option maxRecDepth 100000

theorem inT_w (y t b : Nat) (w : World) (hy : y < 256) (ht : t < 7) (hc : w.cell? ⟨b, 0, none⟩ = some (.int .i64 (t : Int))) :
    Calls Tryz.prog 88 #[.int .i64 (y : Int), .pointer (some ⟨b, 0, none⟩)] w fun e w' => e = .returned (.bool (decide (y / 42 = t))) ∧ w' = w := by
  by_cases h : y / 42 = t
  · rw [decide_eq_true h]
    have h1 : (((y : Int) / 42) == (t : Int)) = true := by rw [beq_iff_eq]; omega
    clear h
    go_enter Tryz.func88, Tryz.ntmps88
    go_wp2
    go_ret
    exact ⟨rfl, rfl⟩
  · rw [decide_eq_false h]
    have h1 : (((y : Int) / 42) == (t : Int)) = false := by rw [beq_eq_false_iff_ne]; omega
    clear h
    go_enter Tryz.func88, Tryz.ntmps88
    go_wp2
    go_ret
    exact ⟨rfl, rfl⟩
abbrev encP (x : Nat) : Value := .int .i64 ((x % 256 : Nat) : Int)
theorem hasT_w (base b t : Nat) (v : Value) (ss : List Int) (F : Int → Option Ref) (w : World) (ho : w.ownsRow base 3 1 v ss.length (ints ss)) (hl : ss.length ≤ 256) (hm : ∀ x, x ∈ ss ↔ (F x).isSome = true) (hd : ∀ i, (F i).isSome = true → 0 ≤ i ∧ i < 256) (ht : t < 7) (hb : b < w.heap.size) (hc : w.cell? ⟨b, 0, none⟩ = some (.int .i64 (t : Int))) :
    Calls Tryz.prog 85 #[v, .func (.func 88) #[] #[.pointer (some ⟨b, 0, none⟩)]] w fun e w' => e = .returned (.bool (has F t)) ∧ ∃ q, w' = w.drewN q := by
  have heq : has F t = (ss.map Int.toNat).any fun x => decide (x % 256 / 42 = t) := by
    rw [Bool.eq_iff_iff, has_iff, List.any_eq_true]
    constructor
    · rintro ⟨p, h1, h2⟩
      obtain ⟨d1, d2⟩ := hd _ h1
      refine ⟨p, List.mem_map.2 ⟨(p : Int), (hm _).2 h1, by simp⟩, ?_⟩
      rw [decide_eq_true_eq, Nat.mod_eq_of_lt (by omega)]
      exact h2
    · rintro ⟨x, hx, h2⟩
      obtain ⟨i, hi, rfl⟩ := List.mem_map.1 hx
      have h1 := (hm _).1 hi
      obtain ⟨d1, d2⟩ := hd _ h1
      rw [decide_eq_true_eq, Nat.mod_eq_of_lt (by omega)] at h2
      exact ⟨i.toNat, by rw [show ((i.toNat : Nat) : Int) = i by omega]; exact h1, h2⟩
  obtain ⟨va, vc, rfl, hr⟩ := ownsRow_slice ho
  cases va with
  | none =>
    have h0 : ss = [] := by
      have h1 := hr.2.2.2.1 rfl
      have h2 := hr.2.1
      exact List.length_eq_zero_iff.1 (by omega)
    subst h0
    refine (AnyE.slices_ContainsFunc_empty Tryz.containsI none vc _ w).mono ?_
    rintro e w' ⟨rfl, rfl⟩
    exact ⟨by rw [heq]; rfl, 0, rfl⟩
  | some ad =>
    rcases ho.2 with ⟨e, _⟩ | ⟨g, c, cur, e, _, _, _⟩
    · cases e
    · cases e
      have hp : PredAt Tryz.prog 88 #[.pointer (some ⟨b, 0, none⟩)] encP (fun x => decide (x % 256 / 42 = t)) w := by
        intro W x hbW
        refine (inT_w (x % 256) t b W (Nat.mod_lt _ (by decide)) ht (keep hbW hc hb)).mono ?_
        rintro e w' ⟨rfl, rfl⟩
        exact ⟨rfl, 0, rfl⟩
      have hcl : ∀ j, j < (ss.map Int.toNat).length → w.cell? ⟨g, 0 + j, none⟩ = some (encP (ss.map Int.toNat)[j]!) := by
        intro j hj
        have hj' : j < ss.length := by simpa using hj
        have h1 := Row.cell hr (j := j) (u := .int .i64 ss[j]) (by simp [ints, hj'])
        rw [h1, getElem!_pos _ j hj, List.getElem_map]
        obtain ⟨d1, d2⟩ := hd ss[j] ((hm _).1 (List.getElem_mem hj'))
        have : ((ss[j].toNat % 256 : Nat) : Int) = ss[j] := by rw [Nat.mod_eq_of_lt (by omega)]; omega
        unfold encP
        rw [this]
      refine (AnyE.slices_ContainsFunc Tryz.containsI encP (fun x => decide (x % 256 / 42 = t)) 88 #[.pointer (some ⟨b, 0, none⟩)] (enters_of Tryz.func88 (by kernel_rfl) rfl) g 0 ss.length vc (ss.map Int.toNat) w hp (by simp) (by omega) hcl).mono ?_
      rintro e w' ⟨rfl, q, rfl⟩
      rw [heq, List.take_of_length_le (by simp)]
      exact ⟨rfl, q, rfl⟩
theorem num_le {w : World} {b n k : Nat} {F : Int → Bool} (h : NumMap w b n F k) (hd : ∀ i, F i = true → 0 ≤ i ∧ i < 256) : k ≤ 256 := by
  obtain ⟨D, h1, h2, h3⟩ := h
  obtain ⟨k1, k0, k2⟩ := ikeys_is h1
  have := cnt_of (F := fun i => if F i then some () else none) (fun i hi => hd i (by cases hF : F i with | true => rfl | false => simp [hF] at hi)) k1 (fun i => by rw [k2, (h3 i).2]; cases F i <;> simp)
  rw [← h2, ← k0, this]
  unfold cnt
  have := List.countP_le_length (p := fun (p : Nat) => ((fun i => if F i = true then some () else none) (p : Int)).isSome) (l := List.range 256)
  simpa using this
end Go.Proofs.YtbjfgdahfpfgdaaGreatDoor.PgW
