/- How all is to lie, in memory; A pair written on a device that may fall; How all is to lie, while it is written; what elsewhere leaves a store; What a store's write does, in plain words; What a commit is in plain words; what a layout may be written by. -/
import Derived.Test.YtbjfgdahfpfgdaaGreatDoorKeepFaultsP10
import Derived.Deep.AppendLies
import Derived.Test.YtbjfgdahfpfgdaaGreatDoorKeepFaultsP5
import Derived.Test.YtbjfgdahfpfgdaaGreatDoorKeepFaultsP8
namespace Go.Proofs.YtbjfgdahfpfgdaaGreatDoor.PgW
open Go Go.RowKit Go.Maps Go.Proofs.YtbjfgdahfpfgdaaGreatDoor.Mem Go.Proofs.YtbjfgdahfpfgdaaGreatDoor.MapsW Go.Proofs.YtbjfgdahfpfgdaaGreatDoor.DevG Go.Proofs.YtbjfgdahfpfgdaaGreatDoor.PgP Go.Proofs.YtbjfgdahfpfgdaaGreatDoor.RefsW
set_option linter.unusedVariables false
set_option maxRecDepth 100000

abbrev lcells (tb tc a : Nat) (vn vp vf : Value) : Array Value := #[.slice (some ⟨tb, 0, none⟩) 7 tc, .map (some a), vn, vp, vf]
/-- a slice's block -/
def blk (v : Value) : List Nat := v.ownBlock.toList
theorem blk_slice (g o n c : Nat) : blk (.slice (some ⟨g, o, none⟩) n c) = [g] := rfl
theorem blk_nil (n c : Nat) : blk (.slice none n c) = [] := rfl
/-- a layout in memory -/
structure LAt (w : World) (base n X tb tc a : Nat) (vn vp vf : Value) (x : Lay) : Prop where
  cells : w.heap[X]? = some (.cells (lcells tb tc a vn vp vf) 100)
  tabs : OwnRefs w base (.slice (some ⟨tb, 0, none⟩) 7 tc) 7 x.tabs
  at_ : ∃ k, RefMap w a n x.at_ k
  nt : w.ownsRow base 3 1 vn x.nt.length (nums .i64 x.nt)
  pg : w.ownsRow base 3 1 vp x.pg.length (nums .i64 x.pg)
  free : ∃ fa fc, vf = .slice fa x.free.length fc ∧ Nums .i64 w fa x.free.length fc x.free
  b0 : base ≤ X ∧ base ≤ a
  nd : (X :: a :: tb :: (blk vn ++ (blk vp ++ blk vf))).Nodup
  lt : ∀ b ∈ X :: a :: tb :: (blk vn ++ (blk vp ++ blk vf)), b < w.heap.size
theorem LAt.c {w : World} {base n X tb tc a : Nat} {vn vp vf : Value} {x : Lay} (h : LAt w base n X tb tc a vn vp vf x) :
    w.cell? ⟨X, 0, none⟩ = some (.slice (some ⟨tb, 0, none⟩) 7 tc) ∧ w.cell? ⟨X, 1, none⟩ = some (.map (some a)) ∧ w.cell? ⟨X, 2, none⟩ = some vn ∧ w.cell? ⟨X, 3, none⟩ = some vp ∧ w.cell? ⟨X, 4, none⟩ = some vf ∧ ∀ j, w.frozen? ⟨X, j, none⟩ = false := by
  have := h.cells
  simp [World.cell?, World.frozen?, this]
theorem row_grown {w w' : World} {base r : Nat} {e : TypeId} {size : Nat} {v : Value} {n : Nat} {xs : List Value} (h : w.ownsRow base e size v n xs) (hg : w.grownBy w' (some r)) (hr : r ∉ blk v) : w'.ownsRow base e size v n xs := by
  refine h.kept hg (.inr fun e => hr ?_)
  unfold blk
  rw [e]
  simp
theorem nums_grown {w w' : World} {r : Nat} {fa : Option Addr} {n c : Nat} {l : List Nat} (h : Nums .i64 w fa n c l) (hg : w.grownBy w' (some r)) (hr : r ∉ blk (.slice fa n c)) : Nums .i64 w' fa n c l :=
  Row.keep h fun b o e hlt => hg.block b hlt fun e2 => hr (by rw [e, blk_slice, ← Option.some.inj e2]; simp)
theorem grown_set (w : World) (b j : Nat) (v : Value) : w.grownBy (w.setCell ⟨b, j, none⟩ v) (some b) :=
  ⟨rfl, rfl, rfl, by simp, fun k hk hn => heap_setCell_other w ⟨b, j, none⟩ k v fun e => hn (by rw [e])⟩
theorem ref_grown {w w' : World} {b n k r : Nat} {F : Int → Option (Int × Nat)} (h : RefMap w b n F k) (hg : w.grownBy w' (some r)) (hr : b ≠ r) : RefMap w' b n F k := by
  obtain ⟨es, ck, hk⟩ := h.block
  exact h.still (hg.block b (Array.getElem?_eq_some_iff.1 hk).1 fun e => hr (Option.some.inj e))
/-- what writes elsewhere leaves it -/
theorem LAt.grown {w w' : World} {base n X tb tc a r : Nat} {vn vp vf : Value} {x : Lay} (h : LAt w base n X tb tc a vn vp vf x) (hg : w.grownBy w' (some r)) (hr : r ∉ X :: a :: tb :: (blk vn ++ (blk vp ++ blk vf))) : LAt w' base n X tb tc a vn vp vf x := by
  simp only [List.mem_cons, List.mem_append, not_or] at hr
  obtain ⟨r1, r2, r3, r4, r5, r6⟩ := hr
  obtain ⟨k, hk⟩ := h.at_
  obtain ⟨fa, fc, hv, hf⟩ := h.free
  refine ⟨(hg.block X (h.lt X (by simp)) (fun e => r1 (Option.some.inj e).symm)).trans h.cells, row_grown h.tabs hg (by rw [blk_slice]; simpa using r3), ⟨k, ref_grown hk hg (fun e => r2 e.symm)⟩, row_grown h.nt hg r4, row_grown h.pg hg r5, ⟨fa, fc, hv, nums_grown hf hg (by rw [← hv]; exact r6)⟩, h.b0, h.nd, fun b hb => Nat.lt_of_lt_of_le (h.lt b hb) hg.size⟩
theorem LAt.below {w w' : World} {base n X tb tc a : Nat} {vn vp vf : Value} {x : Lay} (h : LAt w base n X tb tc a vn vp vf x) (hb : Below w.heap.size w w') : LAt w' base n X tb tc a vn vp vf x :=
  h.grown (r := w.heap.size) ⟨hb.os, hb.tape, hb.output, hb.size, fun k hk _ => hb.block k hk⟩ fun hm => absurd (h.lt _ hm) (by omega)
/-- the places of pages are others -/
theorem LAt.setAt {w w' : World} {base n n' X tb tc a k' : Nat} {vn vp vf : Value} {x : Lay} {F : Int → Option Ref} (h : LAt w base n X tb tc a vn vp vf x) (hr : RefMap w' a n' F k') (hg : w.grownBy w' (some a)) : LAt w' base n' X tb tc a vn vp vf { x with at_ := F } := by
  have hnd := h.nd
  simp only [List.nodup_cons, List.mem_cons, List.mem_append, not_or] at hnd
  obtain ⟨⟨x1, x2, x3, x4, x5⟩, ⟨a1, a2, a3, a4⟩, _⟩ := hnd
  obtain ⟨fa, fc, hv, hf⟩ := h.free
  exact ⟨(hg.block X (h.lt X (by simp)) (fun e => x1 (Option.some.inj e))).trans h.cells, row_grown h.tabs hg (by rw [blk_slice]; simpa using a1), ⟨k', hr⟩, row_grown h.nt hg a2, row_grown h.pg hg a3, ⟨fa, fc, hv, nums_grown hf hg (by rw [← hv]; exact a4)⟩, h.b0, h.nd, fun b hb => Nat.lt_of_lt_of_le (h.lt b hb) hg.size⟩
/-- a table's place is another -/
theorem LAt.setTab {w : World} {base n X tb tc a : Nat} {vn vp vf : Value} {x : Lay} (h : LAt w base n X tb tc a vn vp vf x) (t : Nat) (r : Ref) :
    LAt ((w.setCell ⟨tb, t * 2, none⟩ (.int .i64 r.1)).setCell ⟨tb, t * 2 + 1, none⟩ (.int .u32 (r.2 : Int))) base n X tb tc a vn vp vf { x with tabs := x.tabs.set t r } := by
  have hnd := h.nd
  simp only [List.nodup_cons, List.mem_cons, List.mem_append, not_or] at hnd
  obtain ⟨⟨x1, x2, x3, x4, x5⟩, ⟨a1, a2, a3, a4⟩, ⟨t1, t2, t3⟩, _⟩ := hnd
  obtain ⟨fa, fc, hv, hf⟩ := h.free
  obtain ⟨k, hk⟩ := h.at_
  have hg : w.grownBy ((w.setCell ⟨tb, t * 2, none⟩ (.int .i64 r.1)).setCell ⟨tb, t * 2 + 1, none⟩ (.int .u32 (r.2 : Int))) (some tb) := (grown_set w tb (t * 2) _).trans (grown_set _ tb (t * 2 + 1) _)
  exact ⟨(hg.block X (h.lt X (by simp)) (fun e => x2 (Option.some.inj e))).trans h.cells, own_ref h.tabs t r, ⟨k, ref_grown hk hg a1⟩, row_grown h.nt hg t1, row_grown h.pg hg t2, ⟨fa, fc, hv, nums_grown hf hg (by rw [← hv]; exact t3)⟩, h.b0, h.nd, fun b hb => Nat.lt_of_lt_of_le (h.lt b hb) hg.size⟩
/-- one is taken -/
theorem LAt.setFree {w : World} {base n X tb tc a : Nat} {vn vp : Value} {x : Lay} {g o o' c f : Nat} {fs : List Nat} (h : LAt w base n X tb tc a vn vp (.slice (some ⟨g, o, none⟩) (fs.length + 1) c) x) (hf : x.free = f :: fs) (hn' : Nums .i64 w (some ⟨g, o', none⟩) fs.length (c - 1) fs) :
    LAt (w.setCell ⟨X, 4, none⟩ (.slice (some ⟨g, o', none⟩) fs.length (c - 1))) base n X tb tc a vn vp (.slice (some ⟨g, o', none⟩) fs.length (c - 1)) { x with free := fs } := by
  have hnd := h.nd
  rw [blk_slice] at hnd
  have hnd' := hnd
  simp only [List.nodup_cons, List.mem_cons, List.mem_append, not_or] at hnd
  obtain ⟨⟨x1, x2, x3, x4, x5⟩, _⟩ := hnd
  obtain ⟨fa, fc, hv, hn⟩ := h.free
  rw [hf] at hv hn
  cases hv
  obtain ⟨k, hk⟩ := h.at_
  have hg := grown_set w X 4 (.slice (some ⟨g, o', none⟩) fs.length (c - 1))
  have hc := h.cells
  refine ⟨by simp [World.setCell, Array.getElem?_modify, hc], row_grown h.tabs hg (by rw [blk_slice]; simpa using x2), ⟨k, ref_grown hk hg (fun e => x1 e.symm)⟩, row_grown h.nt hg x3, row_grown h.pg hg x4, ⟨_, _, rfl, ?_⟩, h.b0, by rw [blk_slice]; exact hnd', fun b hb => ?_⟩
  · exact nums_grown hn' hg (by rw [blk_slice]; simpa using x5)
  · rw [blk_slice] at hb
    have := h.lt b (by rw [blk_slice]; exact hb)
    simpa using this
theorem row_same {w w' : World} {base : Nat} {e : TypeId} {size : Nat} {v : Value} {n : Nat} {xs : List Value} (h : w.ownsRow base e size v n xs) (hs : ∀ g, v.ownBlock = some g → w'.heap[g]? = w.heap[g]?) : w'.ownsRow base e size v n xs := by
  obtain ⟨h1, h2 | ⟨g, c, cur, rfl, hb, hc, q⟩⟩ := h
  · exact ⟨h1, .inl h2⟩
  · exact ⟨h1, .inr ⟨g, c, cur, rfl, hb, (hs g rfl).trans hc, q⟩⟩
theorem nodup_put {L1 B L2 : List Nat} {g : Nat} (h : (L1 ++ (B ++ L2)).Nodup) (h1 : g ∉ L1) (h2 : g ∉ L2) : (L1 ++ ([g] ++ L2)).Nodup := by
  rw [List.nodup_append] at h ⊢
  obtain ⟨a1, a2, a3⟩ := h
  rw [List.nodup_append] at a2
  obtain ⟨b1, b2, b3⟩ := a2
  refine ⟨a1, ?_, ?_⟩
  · rw [List.singleton_append, List.nodup_cons]
    exact ⟨h2, b2⟩
  · intro x hx y hy e
    subst e
    rcases List.mem_append.1 hy with hy | hy
    · rw [List.mem_singleton.1 hy] at hx
      exact h1 hx
    · exact a3 x hx x (by simp [hy]) rfl
/-- a page's number is appended -/
theorem LAt.pushPg {w w1 : World} {base n X tb tc a : Nat} {vn vp vf : Value} {x : Lay} (h : LAt w base n X tb tc a vn vp vf x) {g' c' p q : Nat} (hq : q = x.pg.length + 1)
    (own' : w1.ownsRow base 3 1 (.slice (some ⟨g', 0, none⟩) q c') q (nums .i64 (x.pg ++ [p]))) (hg : w.grownBy w1 vp.ownBlock) (hat : vp.ownBlock = some g' ∨ g' = w.heap.size) (hlt : g' < w1.heap.size) :
    w1.cell? ⟨X, 3, none⟩ = some vp ∧ (∀ j, w1.frozen? ⟨X, j, none⟩ = false) ∧ LAt (w1.setCell ⟨X, 3, none⟩ (.slice (some ⟨g', 0, none⟩) q c')) base n X tb tc a vn (.slice (some ⟨g', 0, none⟩) q c') vf { x with pg := x.pg ++ [p] } := by
  subst hq
  obtain ⟨fa, fc, hv, hf⟩ := h.free
  obtain ⟨k, hk⟩ := h.at_
  have hnd := h.nd
  have hnd0 : ((X :: a :: tb :: blk vn) ++ (blk vp ++ blk vf)).Nodup := h.nd
  have hsep : ∀ b, b ∈ X :: a :: tb :: (blk vn ++ blk vf) → b ∉ blk vp := by
    intro b hb hm
    rw [List.nodup_append] at hnd0
    obtain ⟨_, a2, a3⟩ := hnd0
    rw [List.nodup_append] at a2
    rcases List.mem_append.1 (show b ∈ (X :: a :: tb :: blk vn) ++ blk vf from hb) with hb | hb
    · exact a3 b hb b (by simp [hm]) rfl
    · exact a2.2.2 b hm b hb rfl
  have hin : ∀ b, b ∈ X :: a :: tb :: (blk vn ++ blk vf) → b < w.heap.size := fun b hb => h.lt b (by
    simp only [List.mem_cons, List.mem_append] at hb ⊢
    rcases hb with hb | hb | hb | hb | hb <;> simp [hb])
  have hkeep : ∀ b, b ∈ X :: a :: tb :: (blk vn ++ blk vf) → w1.heap[b]? = w.heap[b]? := fun b hb => hg.block b (hin b hb) fun e => hsep b hb (by unfold blk; rw [← e]; simp)
  have hnew : ∀ b, b ∈ X :: a :: tb :: (blk vn ++ blk vf) → b ≠ g' := by
    rintro b hb rfl
    rcases hat with e | e
    · exact hsep b hb (by unfold blk; rw [e]; simp)
    · have := hin b hb; omega
  have hX := hkeep X (by simp)
  have hXc : w1.heap[X]? = some (.cells (lcells tb tc a vn vp vf) 100) := hX.trans h.cells
  have hset := grown_set w1 X 3 (.slice (some ⟨g', 0, none⟩) (x.pg.length + 1) c')
  simp only [List.nodup_cons, List.mem_cons, List.mem_append, not_or] at hnd
  obtain ⟨⟨x1, x2, x3, x4, x5⟩, _⟩ := hnd
  have hk2 : ∀ b, b ∈ X :: a :: tb :: (blk vn ++ blk vf) → b ≠ X → (w1.setCell ⟨X, 3, none⟩ (.slice (some ⟨g', 0, none⟩) (x.pg.length + 1) c')).heap[b]? = w.heap[b]? := fun b hb hne =>
    (hset.block b (Nat.lt_of_lt_of_le (hin b hb) hg.size) fun e => hne (Option.some.inj e)).trans (hkeep b hb)
  have hsz : w.heap.size ≤ w1.heap.size := hg.size
  refine ⟨by simp [World.cell?, hXc], fun j => by simp [World.frozen?, hXc], ⟨by simp [World.setCell, Array.getElem?_modify, hXc], row_same h.tabs (fun g e => hk2 g ?_ ?_), ⟨k, hk.still (hk2 a (by simp) (fun e => x1 e.symm))⟩, row_same h.nt (fun g e => hk2 g ?_ ?_), ?_, ⟨fa, fc, hv, ?_⟩, h.b0, ?_, ?_⟩⟩
  · have : tb = g := by simpa [Value.ownBlock] using e
    rw [← this]; simp
  · have : tb = g := by simpa [Value.ownBlock] using e
    rw [← this]; exact fun e => x2 e.symm
  · have : g ∈ blk vn := by unfold blk; rw [e]; simp
    simp [this]
  · have : g ∈ blk vn := by unfold blk; rw [e]; simp
    rintro rfl
    exact x3 this
  · have e : (x.pg ++ [p]).length = x.pg.length + 1 := by simp
    show World.ownsRow _ _ _ _ _ (x.pg ++ [p]).length _
    rw [e]
    refine row_grown own' hset ?_
    rw [blk_slice]
    simp only [List.mem_singleton]
    exact hnew X (by simp)
  · refine Row.keep hf fun b o e _ => hk2 b ?_ ?_
    · have : b ∈ blk vf := by rw [hv, e, blk_slice]; simp
      simp [this]
    · have : b ∈ blk vf := by rw [hv, e, blk_slice]; simp
      rintro rfl
      exact x5 this
  · rw [blk_slice]
    exact nodup_put (L1 := X :: a :: tb :: blk vn) hnd0 (fun hm => hnew g' (by simp only [List.mem_cons, List.mem_append] at hm ⊢; rcases hm with hm | hm | hm | hm <;> simp [hm]) rfl) (fun hm => hnew g' (by simp [hm]) rfl)
  · intro b hb
    rw [blk_slice] at hb
    simp only [List.mem_cons, List.mem_append, List.not_mem_nil, or_false] at hb
    have hs2 : (w1.setCell ⟨X, 3, none⟩ (.slice (some ⟨g', 0, none⟩) (x.pg.length + 1) c')).heap.size = w1.heap.size := by simp
    rw [hs2]
    rcases hb with hb | hb | hb | hb | hb | hb
    · exact Nat.lt_of_lt_of_le (hin b (by simp [hb])) hsz
    · exact Nat.lt_of_lt_of_le (hin b (by simp [hb])) hsz
    · exact Nat.lt_of_lt_of_le (hin b (by simp [hb])) hsz
    · exact Nat.lt_of_lt_of_le (hin b (by simp [hb])) hsz
    · rw [hb]; exact hlt
    · exact Nat.lt_of_lt_of_le (hin b (by simp [hb])) hsz
/-- a table's number is appended -/
theorem LAt.pushNt {w w1 : World} {base n X tb tc a : Nat} {vn vp vf : Value} {x : Lay} (h : LAt w base n X tb tc a vn vp vf x) {g' c' p q : Nat} (hq : q = x.nt.length + 1)
    (own' : w1.ownsRow base 3 1 (.slice (some ⟨g', 0, none⟩) q c') q (nums .i64 (x.nt ++ [p]))) (hg : w.grownBy w1 vn.ownBlock) (hat : vn.ownBlock = some g' ∨ g' = w.heap.size) (hlt : g' < w1.heap.size) :
    w1.cell? ⟨X, 2, none⟩ = some vn ∧ (∀ j, w1.frozen? ⟨X, j, none⟩ = false) ∧ LAt (w1.setCell ⟨X, 2, none⟩ (.slice (some ⟨g', 0, none⟩) q c')) base n X tb tc a (.slice (some ⟨g', 0, none⟩) q c') vp vf { x with nt := x.nt ++ [p] } := by
  subst hq
  obtain ⟨fa, fc, hv, hf⟩ := h.free
  obtain ⟨k, hk⟩ := h.at_
  have hnd := h.nd
  have hnd0 : ((X :: a :: [tb]) ++ (blk vn ++ (blk vp ++ blk vf))).Nodup := h.nd
  have hsep : ∀ b, b ∈ X :: a :: tb :: (blk vp ++ blk vf) → b ∉ blk vn := by
    intro b hb hm
    rw [List.nodup_append] at hnd0
    obtain ⟨_, a2, a3⟩ := hnd0
    rw [List.nodup_append] at a2
    rcases List.mem_append.1 (show b ∈ (X :: a :: [tb]) ++ (blk vp ++ blk vf) from hb) with hb | hb
    · exact a3 b hb b (by simp [hm]) rfl
    · exact a2.2.2 b hm b hb rfl
  have hin : ∀ b, b ∈ X :: a :: tb :: (blk vp ++ blk vf) → b < w.heap.size := fun b hb => h.lt b (by
    simp only [List.mem_cons, List.mem_append] at hb ⊢
    rcases hb with hb | hb | hb | hb | hb <;> simp [hb])
  have hkeep : ∀ b, b ∈ X :: a :: tb :: (blk vp ++ blk vf) → w1.heap[b]? = w.heap[b]? := fun b hb => hg.block b (hin b hb) fun e => hsep b hb (by unfold blk; rw [← e]; simp)
  have hnew : ∀ b, b ∈ X :: a :: tb :: (blk vp ++ blk vf) → b ≠ g' := by
    rintro b hb rfl
    rcases hat with e | e
    · exact hsep b hb (by unfold blk; rw [e]; simp)
    · have := hin b hb; omega
  have hX := hkeep X (by simp)
  have hXc : w1.heap[X]? = some (.cells (lcells tb tc a vn vp vf) 100) := hX.trans h.cells
  have hset := grown_set w1 X 2 (.slice (some ⟨g', 0, none⟩) (x.nt.length + 1) c')
  simp only [List.nodup_cons, List.mem_cons, List.mem_append, not_or] at hnd
  obtain ⟨⟨x1, x2, x3, x4, x5⟩, _⟩ := hnd
  have hk2 : ∀ b, b ∈ X :: a :: tb :: (blk vp ++ blk vf) → b ≠ X → (w1.setCell ⟨X, 2, none⟩ (.slice (some ⟨g', 0, none⟩) (x.nt.length + 1) c')).heap[b]? = w.heap[b]? := fun b hb hne =>
    (hset.block b (Nat.lt_of_lt_of_le (hin b hb) hg.size) fun e => hne (Option.some.inj e)).trans (hkeep b hb)
  have hsz : w.heap.size ≤ w1.heap.size := hg.size
  refine ⟨by simp [World.cell?, hXc], fun j => by simp [World.frozen?, hXc], ⟨by simp [World.setCell, Array.getElem?_modify, hXc], row_same h.tabs (fun g e => hk2 g ?_ ?_), ⟨k, hk.still (hk2 a (by simp) (fun e => x1 e.symm))⟩, ?_, row_same h.pg (fun g e => hk2 g ?_ ?_), ⟨fa, fc, hv, ?_⟩, h.b0, ?_, ?_⟩⟩
  · have : tb = g := by simpa [Value.ownBlock] using e
    rw [← this]; simp
  · have : tb = g := by simpa [Value.ownBlock] using e
    rw [← this]; exact fun e => x2 e.symm
  · have e : (x.nt ++ [p]).length = x.nt.length + 1 := by simp
    show World.ownsRow _ _ _ _ _ (x.nt ++ [p]).length _
    rw [e]
    refine row_grown own' hset ?_
    rw [blk_slice]
    simp only [List.mem_singleton]
    exact hnew X (by simp)
  · have : g ∈ blk vp := by unfold blk; rw [e]; simp
    simp [this]
  · have : g ∈ blk vp := by unfold blk; rw [e]; simp
    rintro rfl
    exact x4 this
  · refine Row.keep hf fun b o e _ => hk2 b ?_ ?_
    · have : b ∈ blk vf := by rw [hv, e, blk_slice]; simp
      simp [this]
    · have : b ∈ blk vf := by rw [hv, e, blk_slice]; simp
      rintro rfl
      exact x5 this
  · rw [blk_slice]
    exact nodup_put (L1 := X :: a :: [tb]) hnd0 (fun hm => hnew g' (by simp only [List.mem_cons, List.mem_append] at hm ⊢; rcases hm with hm | hm | hm | hm <;> first | (cases hm; done) | simp [hm]) rfl) (fun hm => hnew g' (by rcases List.mem_append.1 hm with hm | hm <;> simp [hm]) rfl)
  · intro b hb
    rw [blk_slice] at hb
    simp only [List.mem_cons, List.mem_append, List.not_mem_nil, or_false] at hb
    have hs2 : (w1.setCell ⟨X, 2, none⟩ (.slice (some ⟨g', 0, none⟩) (x.nt.length + 1) c')).heap.size = w1.heap.size := by simp
    rw [hs2]
    rcases hb with hb | hb | hb | hb | hb | hb
    · exact Nat.lt_of_lt_of_le (hin b (by simp [hb])) hsz
    · exact Nat.lt_of_lt_of_le (hin b (by simp [hb])) hsz
    · exact Nat.lt_of_lt_of_le (hin b (by simp [hb])) hsz
    · rw [hb]; exact hlt
    · exact Nat.lt_of_lt_of_le (hin b (by simp [hb])) hsz
    · exact Nat.lt_of_lt_of_le (hin b (by simp [hb])) hsz
/-- a free block's number is appended -/
theorem LAt.pushFree {w w1 : World} {base n X tb tc a : Nat} {vn vp vf : Value} {x : Lay} (h : LAt w base n X tb tc a vn vp vf x) {g' c' p q : Nat} (hq : q = x.free.length + 1)
    (own' : w1.ownsRow base 3 1 (.slice (some ⟨g', 0, none⟩) q c') q (nums .i64 (x.free ++ [p]))) (hg : w.grownBy w1 vf.ownBlock) (hat : vf.ownBlock = some g' ∨ g' = w.heap.size) (hlt : g' < w1.heap.size) :
    w1.cell? ⟨X, 4, none⟩ = some vf ∧ (∀ j, w1.frozen? ⟨X, j, none⟩ = false) ∧ LAt (w1.setCell ⟨X, 4, none⟩ (.slice (some ⟨g', 0, none⟩) q c')) base n X tb tc a vn vp (.slice (some ⟨g', 0, none⟩) q c') { x with free := x.free ++ [p] } ∧ (w1.setCell ⟨X, 4, none⟩ (.slice (some ⟨g', 0, none⟩) q c')).ownsRow base 3 1 (.slice (some ⟨g', 0, none⟩) q c') q (nums .i64 (x.free ++ [p])) := by
  subst hq
  obtain ⟨fa, fc, hv, hf⟩ := h.free
  obtain ⟨k, hk⟩ := h.at_
  have hnd := h.nd
  have hnd0 : ((X :: a :: tb :: (blk vn ++ blk vp)) ++ (blk vf ++ [])).Nodup := by simpa using h.nd
  have hsep : ∀ b, b ∈ X :: a :: tb :: (blk vn ++ blk vp) → b ∉ blk vf := by
    intro b hb hm
    rw [List.nodup_append] at hnd0
    obtain ⟨_, a2, a3⟩ := hnd0
    rw [List.nodup_append] at a2
    rcases List.mem_append.1 (show b ∈ (X :: a :: tb :: (blk vn ++ blk vp)) ++ [] by simpa using hb) with hb | hb
    · exact a3 b hb b (by simp [hm]) rfl
    · exact a2.2.2 b hm b hb rfl
  have hin : ∀ b, b ∈ X :: a :: tb :: (blk vn ++ blk vp) → b < w.heap.size := fun b hb => h.lt b (by
    simp only [List.mem_cons, List.mem_append] at hb ⊢
    rcases hb with hb | hb | hb | hb | hb <;> simp [hb])
  have hkeep : ∀ b, b ∈ X :: a :: tb :: (blk vn ++ blk vp) → w1.heap[b]? = w.heap[b]? := fun b hb => hg.block b (hin b hb) fun e => hsep b hb (by unfold blk; rw [← e]; simp)
  have hnew : ∀ b, b ∈ X :: a :: tb :: (blk vn ++ blk vp) → b ≠ g' := by
    rintro b hb rfl
    rcases hat with e | e
    · exact hsep b hb (by unfold blk; rw [e]; simp)
    · have := hin b hb; omega
  have hX := hkeep X (by simp)
  have hXc : w1.heap[X]? = some (.cells (lcells tb tc a vn vp vf) 100) := hX.trans h.cells
  have hset := grown_set w1 X 4 (.slice (some ⟨g', 0, none⟩) (x.free.length + 1) c')
  simp only [List.nodup_cons, List.mem_cons, List.mem_append, not_or] at hnd
  obtain ⟨⟨x1, x2, x3, x4, x5⟩, _⟩ := hnd
  have hk2 : ∀ b, b ∈ X :: a :: tb :: (blk vn ++ blk vp) → b ≠ X → (w1.setCell ⟨X, 4, none⟩ (.slice (some ⟨g', 0, none⟩) (x.free.length + 1) c')).heap[b]? = w.heap[b]? := fun b hb hne =>
    (hset.block b (Nat.lt_of_lt_of_le (hin b hb) hg.size) fun e => hne (Option.some.inj e)).trans (hkeep b hb)
  have hsz : w.heap.size ≤ w1.heap.size := hg.size
  have hown2 := row_grown own' hset (by rw [blk_slice]; simp only [List.mem_singleton]; exact hnew X (by simp))
  refine ⟨by simp [World.cell?, hXc], fun j => by simp [World.frozen?, hXc], ⟨by simp [World.setCell, Array.getElem?_modify, hXc], row_same h.tabs (fun g e => hk2 g ?_ ?_), ⟨k, hk.still (hk2 a (by simp) (fun e => x1 e.symm))⟩, row_same h.nt (fun g e => hk2 g ?_ ?_), row_same h.pg (fun g e => hk2 g ?_ ?_), ⟨some ⟨g', 0, none⟩, c', by simp, ?_⟩, h.b0, ?_, ?_⟩, hown2⟩
  · have : tb = g := by simpa [Value.ownBlock] using e
    rw [← this]; simp
  · have : tb = g := by simpa [Value.ownBlock] using e
    rw [← this]; exact fun e => x2 e.symm
  · have : g ∈ blk vn := by unfold blk; rw [e]; simp
    simp [this]
  · have : g ∈ blk vn := by unfold blk; rw [e]; simp
    rintro rfl
    exact x3 this
  · have : g ∈ blk vp := by unfold blk; rw [e]; simp
    simp [this]
  · have : g ∈ blk vp := by unfold blk; rw [e]; simp
    rintro rfl
    exact x4 this
  · have e : (x.free ++ [p]).length = x.free.length + 1 := by simp
    show Nums _ _ _ (x.free ++ [p]).length _ _
    rw [e]
    exact (Row.owned hown2).2
  · rw [blk_slice]
    have := nodup_put (L1 := X :: a :: tb :: (blk vn ++ blk vp)) hnd0 (fun hm => hnew g' hm rfl) (by simp)
    simpa using this
  · intro b hb
    rw [blk_slice] at hb
    simp only [List.mem_cons, List.mem_append, List.not_mem_nil, or_false] at hb
    have hs2 : (w1.setCell ⟨X, 4, none⟩ (.slice (some ⟨g', 0, none⟩) (x.free.length + 1) c')).heap.size = w1.heap.size := by simp
    rw [hs2]
    rcases hb with hb | hb | hb | hb | hb | hb
    · exact Nat.lt_of_lt_of_le (hin b (by simp [hb])) hsz
    · exact Nat.lt_of_lt_of_le (hin b (by simp [hb])) hsz
    · exact Nat.lt_of_lt_of_le (hin b (by simp [hb])) hsz
    · exact Nat.lt_of_lt_of_le (hin b (by simp [hb])) hsz
    · exact Nat.lt_of_lt_of_le (hin b (by simp [hb])) hsz
    · rw [hb]; exact hlt
end Go.Proofs.YtbjfgdahfpfgdaaGreatDoor.PgW

namespace Go.Proofs.YtbjfgdahfpfgdaaGreatDoor.PgW
open Go Go.RowKit Go.Maps Go.Proofs.YtbjfgdahfpfgdaaGreatDoor.Mem Go.Proofs.YtbjfgdahfpfgdaaGreatDoor.MapsW Go.Proofs.YtbjfgdahfpfgdaaGreatDoor.SeeW Go.Proofs.YtbjfgdahfpfgdaaGreatDoor.DevG Go.Proofs.YtbjfgdahfpfgdaaGreatDoor.PairG Go.Proofs.YtbjfgdahfpfgdaaGreatDoor.RefsW Go.Proofs.YtbjfgdahfpfgdaaGreatDoor.PgP
set_option linter.unusedVariables false
set_option maxRecDepth 100000

theorem pis_w (lo d n : Nat) (m : Mp) (D : Dv) (p h c : Nat) (i : Int) (w : World) (k : PR w lo d n m D p h c) (hi : Fits i) :
    Calls Tryz.prog 98 #[ptr p, .int .i64 i] w fun e w' => e = .returned (.bool (decide (0 ≤ i ∧ i < h))) ∧ w = w' := by
  obtain ⟨c0, c1, c2, c3, f3⟩ := k.c
  clear k
  by_cases h0 : 0 ≤ i
  · by_cases h1 : i < h
    · go_enter Tryz.func98, Tryz.ntmps98
      go_wp2
      go_ret
      exact ⟨ret_bool (by simp [h0, h1]), rfl⟩
    · have h2 : decide (i < (h : Int)) = false := decide_eq_false h1
      go_enter Tryz.func98, Tryz.ntmps98
      go_wp2
      go_ret
      exact ⟨ret_bool (by simp), rfl⟩
  · have h2 : decide ((0 : Int) ≤ i) = false := decide_eq_false h0
    go_enter Tryz.func98, Tryz.ntmps98
    go_wp2
    go_ret
    exact ⟨ret_bool (by simp), rfl⟩
/-- a pair is written: what is told, what the device is then -/
def wstage (D : Dv) (h i : Nat) (l : List Nat) : Nat → Dv
  | 0 => D
  | 1 => DevG.Dv.wrote D i l
  | _ => DevG.Dv.wrote (DevG.Dv.wrote D i l) (i + h) l
def wpair (D : Dv) (h i : Nat) (l : List Nat) : Option Nat × Dv :=
  if D.tick.down then (some 5, D.tick) else if (DevG.Dv.wrote D i l).tick.down then (some 5, (DevG.Dv.wrote D i l).tick) else (none, wstage D h i l 2)
theorem wstage_in (D : Dv) (h i : Nat) (l : List Nat) (k : Nat) : (wstage D h i l k).np ≤ D.np + 2 ∧ (wstage D h i l k).calls ≤ D.calls + 2 ∧ (wstage D h i l k).blocks = D.blocks ∧ (wstage D h i l k).fuse ≤ D.fuse := by
  have a1 := DevG.Dv.wrote_np D i l
  have a2 := DevG.Dv.wrote_np (DevG.Dv.wrote D i l) (i + h) l
  obtain ⟨b1, b2, b3, b4⟩ := a1
  obtain ⟨c1, c2, c3, c4⟩ := a2
  match k with
  | 0 => exact ⟨by simp [wstage], by simp [wstage], rfl, Nat.le_refl _⟩
  | 1 => simp only [wstage]; omega
  | k + 2 => simp only [wstage]; omega
def WriteTo (bs : List Addr) (w : World) (lo d n : Nat) (m : Mp) (p h c i : Nat) (l : List Nat) (r : Option Nat × Dv) (e : Ending) (w' : World) : Prop :=
  (match r.1 with
    | none => e = .returned (.tuple #[PairG.Rf (i : Int) (Crc.sum l), .nilIface])
    | some q => ∃ a, bs[q]? = some a ∧ e = .returned (.tuple #[PairG.Rf 0 0, ev a])) ∧ PR w' lo d (n + 2) m r.2 p h c ∧ Turn (own d m) w w'
set_option maxHeartbeats 3200000 in
theorem pwrite_w (bs : List Addr) (lo d n : Nat) (m : Mp) (D : Dv) (p h c : Nat) (i : Nat) (a : Option Addr) (cap : Nat) (l : List Nat) (w : World) (k : PR w lo d n m D p h c) (hB : Ev w lo bs five) (hi : i < h) (hl : Nums .u8 w a 256 cap l) (hb : Crc.Bytes l) (hn : n < 850000) (hc : D.calls < 900000) (hz : D.fuse ≤ 1000000) :
    Calls Tryz.prog 90 #[ptr p, .int .i64 i, .slice a 256 cap] w (WriteTo bs w lo d n m p h c i l (wpair D h i l)) := by
  have hhf := k.half
  have hmo := k.most
  have hf : Fits (i : Int) := fits_nat (by omega)
  have hd : decide (0 ≤ (i : Int) ∧ (i : Int) < h) = true := by rw [decide_eq_true_eq]; omega
  have bx := (Below.refl w.heap.size w).alloc (Nat.le_refl _) (.cells #[.int .i64 0, .int .u32 0] 111)
  have kx := k.below bx
  obtain ⟨c0, c1, c2, c3, f3⟩ := kx.c
  have f1 : IntKind.i64.wrap ((i : Int) + (h : Int)) = ((i + h : Nat) : Int) := by rw [IntKind.wrap_i64]; omega
  have hpi := pis_w lo d n m D p h c i _ kx hf
  rw [hd] at hpi
  have HI := hid (wstage_in D h i l)
  have hW : wpair D h i l = if D.tick.down then (some 5, D.tick) else if (wstage D h i l 1).tick.down then (some 5, (wstage D h i l 1).tick) else (none, wstage D h i l 2) := rfl
  have HW := hid hW
  clear hW
  go_enter Tryz.func90, Tryz.ntmps90
  go_wp2_with fail
  refine hpi.mono ?_
  rintro e w' ⟨rfl, rfl⟩
  go_wp2_with fail
  have b1 := kx.below ((Below.refl _ _).alloc (Nat.le_refl _) (.cells #[.int .i64 i, .int .i64 ((i : Int) + (h : Int))] 3))
  have r0 : (w.alloc (.cells #[.int .i64 0, .int .u32 0] 111)).heap[w.heap.size]? = some (.cells #[.int .i64 0, .int .u32 0] 111) := alloc_at rfl _
  have r1 := alloc_old (o := .cells #[.int .i64 i, .int .i64 ((i : Int) + (h : Int))] 3) r0
  have r2 : ((w.alloc (.cells #[.int .i64 0, .int .u32 0] 111)).alloc (.cells #[.int .i64 i, .int .i64 ((i : Int) + (h : Int))] 3)).heap[w.heap.size + 1]? = some (.cells #[.int .i64 i, .int .i64 ((i : Int) + (h : Int))] 3) := alloc_at (by simp) _
  have bb : Below w.heap.size w ((w.alloc (.cells #[.int .i64 0, .int .u32 0] 111)).alloc (.cells #[.int .i64 i, .int .i64 ((i : Int) + (h : Int))] 3)) := bx.alloc (by simp) _
  have hl2 := hl.below bb
  have hB2 := hB.below bb
  have sz : ((w.alloc (.cells #[.int .i64 0, .int .u32 0] 111)).alloc (.cells #[.int .i64 i, .int .i64 ((i : Int) + (h : Int))] 3)).heap.size = w.heap.size + 2 := by simp
  have hdw := k.dev.dlt
  have hpw := k.plt
  have hlo := k.dev.own_lo
  generalize (w.alloc (.cells #[.int .i64 0, .int .u32 0] 111)).alloc (.cells #[.int .i64 i, .int .i64 ((i : Int) + (h : Int))] 3) = wS at *
  have HB := hid bb
  have HZ := hid sz
  clear kx bx c0 c1 c2 c3 f3 r0 hl k hB bb sz hpi
  have h0s : wstage D h i l 0 = D := rfl
  have hs1 : DevG.Dv.wrote (wstage D h i l 0) i l = wstage D h i l 1 := rfl
  have hs2 : DevG.Dv.wrote (wstage D h i l 1) (i + h) l = wstage D h i l 2 := rfl
  have HS1 := hid hs1
  have HS2 := hid hs2
  clear hs1 hs2
  generalize hst : wstage D h i l = st at *
  generalize hwp : wpair D h i l = R at *
  clear hst hwp
  rw [← h0s] at b1
  go_loopw [27] (fun jv wr => ∃ j : Nat, j ≤ 2 ∧ jv = .int .i64 j ∧ PR wr lo d (n + j) m (st j) p h c ∧ Turn (own d m) wS wr ∧ Nums .u8 wr a 256 cap l ∧ Ev wr lo bs five ∧ (∀ q, q < j → (st q).tick.down = false) ∧ wr.heap[w.heap.size]? = some (.cells #[.int .i64 0, .int .u32 0] 111) ∧ wr.heap[w.heap.size + 1]? = some (.cells #[.int .i64 i, .int .i64 ((i : Int) + (h : Int))] 3)) (fun jv _ => 2 - (RowKit.intOf jv).toNat)
  case atStart => exact ⟨0, by omega, rfl, b1, Turn.refl _ _, hl2, hB2, fun q hq => by omega, r1, r2⟩
  case round =>
    clear b1 r1 r2 hl2 hB2
    obtain ⟨j, hj, rfl, kr, tr, hl, hB, hup, r1, r2⟩ := hrel
    obtain ⟨c0, c1, c2, c3, f3⟩ := kr.c
    obtain ⟨g1, g2, g3, g4⟩ := HI.out j
    rw [g3] at c1
    have HUP := hid hup
    have hx1 : wr.cell? ⟨w.heap.size, 0, none⟩ = some (.int .i64 0) ∧ wr.cell? ⟨w.heap.size, 1, none⟩ = some (.int .u32 0) ∧ wr.frozen? ⟨w.heap.size, 0, none⟩ = false ∧ wr.frozen? ⟨w.heap.size, 1, none⟩ = false := by
      simp [World.cell?, World.frozen?, r1]
    have hfar : ∀ (w3 : World) (n' : Nat) (D' : Dv) (k3 : PR w3 lo d n' m D' p h c) (hr : w3.heap[w.heap.size]? = some (.cells #[.int .i64 0, .int .u32 0] 111)) (u v : Value), PR ((w3.setCell ⟨w.heap.size, 0, none⟩ u).setCell ⟨w.heap.size, 1, none⟩ v) lo d n' m D' p h c := by
      intro w3 n' D' k3 hr u v
      have ht : Turn [w.heap.size] w3 ((w3.setCell ⟨w.heap.size, 0, none⟩ u).setCell ⟨w.heap.size, 1, none⟩ v) := (Turn.setCell w3 _ _ _ (by simp)).then (Turn.setCell _ _ _ _ (by simp))
      refine k3.away ht (fun x hx => ?_) (fun x hx => ?_)
      · rw [List.mem_singleton.1 hx]
        intro hm
        rcases List.mem_cons.1 hm with e | hm
        · omega
        · exact k3.dev.out hr (by omega) hm
      · rw [List.mem_singleton.1 hx]
        exact .inr ⟨.int .i64 0, by simp [World.cell?, hr], fun z e => by cases e⟩
    have hfarT : ∀ (w3 : World) (u v : Value), Turn (own d m) wS w3 → Turn (own d m) w ((w3.setCell ⟨w.heap.size, 0, none⟩ u).setCell ⟨w.heap.size, 1, none⟩ v) := fun w3 u v t =>
      ((Turn.of_below HB.out).then t).trans ((Turn.setCell (S := [w.heap.size]) w3 _ _ _ (by simp)).then (Turn.setCell _ _ _ _ (by simp))) (fun x hx => by rw [List.mem_singleton.1 hx]; exact .inr (Nat.le_refl _))
    have HFAR := hid hfar
    have HFT := hid hfarT
    clear hfar hfarT hup
    by_cases hlt : j < 2
    · have hcell : ∃ q : Nat, wr.cell? ⟨w.heap.size + 1, j, none⟩ = some (.int .i64 (q : Int)) ∧ q < D.blocks ∧ DevG.Dv.wrote (st j) q l = st (j + 1) := by
        rcases (by omega : j = 0 ∨ j = 1) with rfl | rfl
        · exact ⟨i, by simp [World.cell?, r2], by omega, HS1.out⟩
        · exact ⟨i + h, by simp [World.cell?, r2], by omega, HS2.out⟩
      obtain ⟨q, hq, hqb, hqe⟩ := hcell
      by_cases hdn : (st j).tick.down = true
      · have hw := write_no bs d lo (n + j) m (st j) q a 256 cap wr kr.dev hB (by omega) (fits_nat (by omega)) 5 _ (by decide) rfl (.inl ⟨hdn, rfl⟩)
        have hR : R = (some 5, (st j).tick) := by
          rw [HW.out]
          rcases (by omega : j = 0 ∨ j = 1) with rfl | rfl
          · rw [h0s] at hdn ⊢; rw [if_pos hdn]
          · have h1 := HUP.out 0 (by omega)
            rw [h0s] at h1
            rw [if_neg (by rw [h1]; simp), if_pos hdn]
        have HR := hid hR
        have HTR := hid tr
        have HKR := hid kr
        obtain ⟨x1, x2, x3, x4⟩ := hx1
        clear hdn hR hB hl tr kr c1 c2 c3 f3 hqe
        go_wp2_with fail
        refine hw.mono ?_
        rintro e w3 ⟨⟨ax, hax, rfl⟩, h3, t3⟩
        have s1 := t3.cells r1 (by simp; omega)
        have k3 := (HKR.out.turn h3 (own1 t3) ((st j).tick_same.1)).mono (n' := n + 2) (by omega) (Nat.le_refl _)
        have hx3 : w3.cell? ⟨w.heap.size, 0, none⟩ = some (.int .i64 0) ∧ w3.cell? ⟨w.heap.size, 1, none⟩ = some (.int .u32 0) ∧ w3.frozen? ⟨w.heap.size, 0, none⟩ = false ∧ w3.frozen? ⟨w.heap.size, 1, none⟩ = false := by
          simp [World.cell?, World.frozen?, s1]
        obtain ⟨y1, y2, y3, y4⟩ := hx3
        have HP := hid (HFAR.out w3 _ _ k3 s1)
        have HT3 := hid (HTR.out.then (own1 t3))
        clear k3 h3 t3 x1 x2 x3 x4 s1 r1 r2 hq c0
        go_wp2_with fail
        refine bodyPost_ret (v := .tuple #[PairG.Rf 0 0, ev ax]) (by simp [results, Tryz.results90, go_sem, y1, y2]) rfl ?_
        rw [HR.out]
        exact ⟨⟨ax, hax, rfl⟩, HP.out _ _, HFT.out _ _ _ HT3.out⟩
      · have hdn' : (st j).tick.down = false := by simpa using hdn
        have hw := write_ok d lo (n + j) m (st j) q a cap l wr kr.dev (by omega) (by omega) hl (by omega) (by omega) (by omega) hdn'
        have HUQ := hid (show ∀ q, q < j + 1 → (st q).tick.down = false from fun q hq => (Nat.lt_or_ge q j).elim (fun h => HUP.out q h) (fun h => by rw [show q = j by omega]; exact hdn'))
        have hqe' : (st j).tick.put q l = st (j + 1) := hqe
        rw [hqe'] at hw
        have g3' := (HI.out (j + 1)).2.2.1
        have HTR := hid tr
        have HKR := hid kr
        have HBR := hid hB
        have HLR := hid hl
        clear hdn hdn' hB hl tr kr c1 c2 c3 f3 hqe hqe' hx1
        go_wp2_with fail
        refine hw.mono ?_
        rintro e w3 ⟨rfl, h3, t3⟩
        have k3 := HKR.out.turn h3 t3 (by rw [g3, g3'])
        have hl3 := nums_turn HLR.out t3 (At.nou8 HKR.out.dev)
        have hB3 := HBR.out.turn t3 hlo
        have s1 := t3.cells r1 (HKR.out.dev.out r1 (by omega))
        have s2 := t3.cells r2 (HKR.out.dev.out r2 (by omega))
        have HQ := hid (And.intro k3 (And.intro hl3 (And.intro hB3 (And.intro s1 s2))))
        have HT3 := hid (HTR.out.then t3)
        clear k3 hl3 hB3 s1 s2 h3 t3 c0 hq r1 r2
        go_wp2_with fail
        go_roundw
        case rel =>
          obtain ⟨q1, q2, q3, q4, q5⟩ := HQ.out
          exact ⟨j + 1, by omega, by go_num, q1, HT3.out, q2, q3, HUQ.out, q4, q5⟩
        case measure => simp [RowKit.intOf]; omega
    · obtain rfl : j = 2 := by omega
      have hR : R = (none, st 2) := by
        rw [HW.out]
        have h1 := HUP.out 0 (by omega)
        have h2 := HUP.out 1 (by omega)
        rw [h0s] at h1
        rw [if_neg (by rw [h1]; simp), if_neg (by rw [h2]; simp)]
      have HR := hid hR
      have HP := hid (HFAR.out wr _ _ kr r1)
      have HT3 := hid tr
      obtain ⟨x1, x2, x3, x4⟩ := hx1
      clear hR kr tr c0 c1 c2 c3 f3 r1 r2 hB
      go_wp2_with fail
      refine (CrcW.sum_w a 256 cap l _ hl hb).mono ?_
      rintro e w3 ⟨rfl, hw3⟩
      subst hw3
      generalize hs : Crc.sum l = s at *
      have HS := hid hs
      clear hs hl
      go_wp2
      refine bodyPost_ret (v := .tuple #[PairG.Rf i s, .nilIface]) (by simp [results, Tryz.results90, go_sem, x1, x2]) rfl ?_
      rw [HR.out]
      exact ⟨by rw [HS.out], HP.out _ _, HFT.out _ _ _ HT3.out⟩
end Go.Proofs.YtbjfgdahfpfgdaaGreatDoor.PgW

namespace Go.Proofs.YtbjfgdahfpfgdaaGreatDoor.PgW
open Go Go.RowKit Go.Maps Go.Proofs.YtbjfgdahfpfgdaaGreatDoor.Mem Go.Proofs.YtbjfgdahfpfgdaaGreatDoor.MapsW Go.Proofs.YtbjfgdahfpfgdaaGreatDoor.SeeW Go.Proofs.YtbjfgdahfpfgdaaGreatDoor.DevG Go.Proofs.YtbjfgdahfpfgdaaGreatDoor.PairG Go.Proofs.YtbjfgdahfpfgdaaGreatDoor.RefsW Go.Proofs.YtbjfgdahfpfgdaaGreatDoor.PgP
set_option linter.unusedVariables false
set_option maxRecDepth 100000

theorem now_turn0 {S : List Nat} {w w' : World} {base b n k : Nat} {F : Int → Option (List Nat)} (h : NowMap w base b n F k) (ht : Turn S w w') (hb : b ∉ S) (hS : ∀ x ∈ S, NoCells w x ∨ ∃ v, w.cell? ⟨x, 0, none⟩ = some v ∧ ∀ z, v ≠ .int .u8 z) : NowMap w' base b n F k := by
  obtain ⟨es, ck, hk⟩ := h.block
  refine h.keep (ht.block b (Array.getElem?_eq_some_iff.1 hk).1 hb) fun g _ hc hz => ?_
  obtain ⟨c, t, f, hc⟩ := hc
  obtain ⟨z, hz⟩ := hz
  refine ht.block g (Array.getElem?_eq_some_iff.1 hc).1 fun hm => ?_
  rcases hS g hm with h1 | ⟨v, h1, h2⟩
  · exact h1 _ _ _ hc
  · rw [h1] at hz
    exact h2 z (Option.some.inj hz)
/-- what writes elsewhere, into maps or into blocks whose first cell is no byte, leaves the store -/
theorem SAt.away {L : List Nat} {w w' : World} {lo n : Nat} {m : Mp} {D : Dv} {I : Si} {S : St} (k : SAt w lo n m D I S) (ht : Turn L w w') (hS : ∀ x ∈ L, x ∉ I.own m ∧ x ≠ I.tb ∧ ∀ b o, I.ra = some ⟨b, o, none⟩ → x ≠ b)
    (hb : ∀ x ∈ L, NoCells w x ∨ ∃ v, w.cell? ⟨x, 0, none⟩ = some v ∧ ∀ z, v ≠ .int .u8 z) : SAt w' lo n m D I S := by
  obtain ⟨k1, h1⟩ := k.at_
  obtain ⟨k2, h2⟩ := k.now
  have out : ∀ y, y ∈ I.own m → y ∉ L := fun y hy hm => (hS y hm).1 hy
  refine ⟨k.pr.away ht (fun x hx hm => (hS x hx).1 ?_) hb, ht.cells k.cells (out _ (by simp)), refs_turn k.refs ht fun b o e hm => (hS b hm).2.2 b o e rfl, refs_turn k.tabs ht fun b o e hm => ?_, ⟨k1, ref_turn h1 ht (out _ (by simp))⟩, ⟨k2, now_turn0 h2 ht (out _ (by simp)) hb⟩, k.ao, k.sx, k.ax, k.ox, fun b off e => ⟨Nat.lt_of_lt_of_le (k.rx b off e).1 ht.size, (k.rx b off e).2⟩, k.tx, k.slo⟩
  · rcases List.mem_cons.1 hm with e | hm
    · simp [e]
    · simp only [List.mem_cons]; exact .inr (.inr (.inr (.inr (List.mem_cons.1 hm))))
  · cases e
    exact (hS _ hm).2.1 rfl
/-- how all is to lie, but for what is free -/
structure LW (w : World) (base n X tb tc a : Nat) (vn vp vf : Value) (x : Lay) : Prop where
  cells : w.heap[X]? = some (.cells (lcells tb tc a vn vp vf) 100)
  tabs : OwnRefs w base (.slice (some ⟨tb, 0, none⟩) 7 tc) 7 x.tabs
  at_ : ∃ k, RefMap w a n x.at_ k
  nt : w.ownsRow base 3 1 vn x.nt.length (nums .i64 x.nt)
  pg : w.ownsRow base 3 1 vp x.pg.length (nums .i64 x.pg)
  b0 : base ≤ X ∧ base ≤ a
  nd : X ≠ a ∧ X ≠ tb ∧ a ≠ tb ∧ a ∉ blk vn ∧ a ∉ blk vp ∧ tb ∉ blk vn ∧ tb ∉ blk vp
  lt : X < w.heap.size
theorem LAt.lw {w : World} {base n X tb tc a : Nat} {vn vp vf : Value} {x : Lay} (h : LAt w base n X tb tc a vn vp vf x) : LW w base n X tb tc a vn vp vf x := by
  have hnd := h.nd
  simp only [List.nodup_cons, List.mem_cons, List.mem_append, not_or] at hnd
  obtain ⟨⟨x1, x2, x3, x4, x5⟩, ⟨a1, a2, a3, a4⟩, ⟨t1, t2, t3⟩, _⟩ := hnd
  exact ⟨h.cells, h.tabs, h.at_, h.nt, h.pg, h.b0, ⟨x1, x2, a1, a2, a3, t1, t2⟩, h.lt X (by simp)⟩
theorem LW.c {w : World} {base n X tb tc a : Nat} {vn vp vf : Value} {x : Lay} (h : LW w base n X tb tc a vn vp vf x) :
    w.cell? ⟨X, 0, none⟩ = some (.slice (some ⟨tb, 0, none⟩) 7 tc) ∧ w.cell? ⟨X, 1, none⟩ = some (.map (some a)) ∧ w.cell? ⟨X, 2, none⟩ = some vn ∧ w.cell? ⟨X, 3, none⟩ = some vp ∧ w.cell? ⟨X, 4, none⟩ = some vf ∧ ∀ j, w.frozen? ⟨X, j, none⟩ = false := by
  have := h.cells
  simp [World.cell?, World.frozen?, this]
theorem row_turn {L : List Nat} {w w' : World} {base : Nat} {e : TypeId} {size : Nat} {v : Value} {n : Nat} {xs : List Value} (h : w.ownsRow base e size v n xs) (ht : Turn L w w') (hS : ∀ x ∈ L, x ∉ blk v) : w'.ownsRow base e size v n xs :=
  row_same h fun g hg => ht.block g (h.lt g hg).2 fun hm => hS g hm (by unfold blk; rw [hg]; simp)
theorem own_tab {w : World} {base tb tc : Nat} {T : List Ref} (h : OwnRefs w base (.slice (some ⟨tb, 0, none⟩) 7 tc) 7 T) : base ≤ tb ∧ tb < w.heap.size := h.lt tb rfl
theorem blk_ge {w : World} {base : Nat} {e : TypeId} {size : Nat} {v : Value} {n : Nat} {xs : List Value} (h : w.ownsRow base e size v n xs) : ∀ b ∈ blk v, base ≤ b ∧ b < w.heap.size := by
  intro b hb
  refine h.lt b ?_
  unfold blk at hb
  cases hv : v.ownBlock with
  | none => rw [hv] at hb; simp at hb
  | some q => rw [hv] at hb; simp at hb; rw [hb]
theorem LW.ge {w : World} {base n X tb tc a : Nat} {vn vp vf : Value} {x : Lay} (h : LW w base n X tb tc a vn vp vf x) : ∀ y ∈ X :: a :: tb :: (blk vn ++ blk vp), base ≤ y := by
  intro y hy
  simp only [List.mem_cons, List.mem_append] at hy
  rcases hy with rfl | rfl | rfl | hy | hy
  · exact h.b0.1
  · exact h.b0.2
  · exact (own_tab h.tabs).1
  · exact (blk_ge h.nt y hy).1
  · exact (blk_ge h.pg y hy).1
/-- what lies below, or is new, may turn -/
theorem LW.turn {L : List Nat} {w w' : World} {base n X tb tc a : Nat} {vn vp vf : Value} {x : Lay} (h : LW w base n X tb tc a vn vp vf x) (ht : Turn L w w') (hS : ∀ y ∈ L, y < base) : LW w' base n X tb tc a vn vp vf x := by
  obtain ⟨k, hk⟩ := h.at_
  refine ⟨ht.cells h.cells fun hm => ?_, row_turn h.tabs ht fun y hy hm => ?_, ⟨k, ref_turn hk ht fun hm => ?_⟩, row_turn h.nt ht fun y hy hm => ?_, row_turn h.pg ht fun y hy hm => ?_, h.b0, h.nd, Nat.lt_of_lt_of_le h.lt ht.size⟩
  · have := hS _ hm; have := h.b0; omega
  · have := hS _ hy; have := blk_ge h.tabs y hm; omega
  · have := hS _ hm; have := h.b0; omega
  · have := hS _ hy; have := blk_ge h.nt y hm; omega
  · have := hS _ hy; have := blk_ge h.pg y hm; omega
theorem LW.turn' {L : List Nat} {w w' : World} {base n X tb tc a : Nat} {vn vp vf : Value} {x : Lay} (h : LW w base n X tb tc a vn vp vf x) (ht : Turn L w w') (hS : ∀ y ∈ L, y ∉ X :: a :: tb :: (blk vn ++ blk vp)) : LW w' base n X tb tc a vn vp vf x := by
  obtain ⟨k, hk⟩ := h.at_
  refine ⟨ht.cells h.cells fun hm => hS _ hm (by simp), row_turn h.tabs ht fun y hy hm => hS y hy (by rw [blk_slice] at hm; rw [List.mem_singleton.1 hm]; simp), ⟨k, ref_turn hk ht fun hm => hS _ hm (by simp)⟩, row_turn h.nt ht fun y hy hm => hS y hy (by simp [hm]), row_turn h.pg ht fun y hy hm => hS y hy (by simp [hm]), h.b0, h.nd, Nat.lt_of_lt_of_le h.lt ht.size⟩
theorem LW.below {w w' : World} {base n X tb tc a : Nat} {vn vp vf : Value} {x : Lay} (h : LW w base n X tb tc a vn vp vf x) (hb : Below w.heap.size w w') : LW w' base n X tb tc a vn vp vf x :=
  h.turn (L := []) (Turn.of_below hb) fun y hy => by cases hy
theorem LW.mono {w : World} {base n n' X tb tc a : Nat} {vn vp vf : Value} {x : Lay} (h : LW w base n X tb tc a vn vp vf x) (hn : n ≤ n') : LW w base n' X tb tc a vn vp vf x := by
  obtain ⟨k, hk⟩ := h.at_
  exact ⟨h.cells, h.tabs, ⟨k, hk.mono hn⟩, h.nt, h.pg, h.b0, h.nd, h.lt⟩
theorem LW.setAt {w w' : World} {base n n' X tb tc a k' : Nat} {vn vp vf : Value} {x : Lay} {F : Int → Option Ref} (h : LW w base n X tb tc a vn vp vf x) (hr : RefMap w' a n' F k') (hg : w.grownBy w' (some a)) : LW w' base n' X tb tc a vn vp vf { x with at_ := F } := by
  obtain ⟨x1, x2, a1, a2, a3, t1, t2⟩ := h.nd
  exact ⟨(hg.block X h.lt (fun e => x1 (Option.some.inj e))).trans h.cells, row_grown h.tabs hg (by rw [blk_slice]; simpa using a1), ⟨k', hr⟩, row_grown h.nt hg a2, row_grown h.pg hg a3, h.b0, h.nd, Nat.lt_of_lt_of_le h.lt hg.size⟩
theorem LW.setTab {w : World} {base n X tb tc a : Nat} {vn vp vf : Value} {x : Lay} (h : LW w base n X tb tc a vn vp vf x) (t : Nat) (r : Ref) :
    LW ((w.setCell ⟨tb, t * 2, none⟩ (.int .i64 r.1)).setCell ⟨tb, t * 2 + 1, none⟩ (.int .u32 (r.2 : Int))) base n X tb tc a vn vp vf { x with tabs := x.tabs.set t r } := by
  obtain ⟨x1, x2, a1, a2, a3, t1, t2⟩ := h.nd
  obtain ⟨k, hk⟩ := h.at_
  have hg : w.grownBy ((w.setCell ⟨tb, t * 2, none⟩ (.int .i64 r.1)).setCell ⟨tb, t * 2 + 1, none⟩ (.int .u32 (r.2 : Int))) (some tb) := (grown_set w tb (t * 2) _).trans (grown_set _ tb (t * 2 + 1) _)
  exact ⟨(hg.block X h.lt (fun e => x2 (Option.some.inj e))).trans h.cells, own_ref h.tabs t r, ⟨k, ref_grown hk hg a1⟩, row_grown h.nt hg t1, row_grown h.pg hg t2, h.b0, h.nd, Nat.lt_of_lt_of_le h.lt hg.size⟩
end Go.Proofs.YtbjfgdahfpfgdaaGreatDoor.PgW

namespace Go.Proofs.YtbjfgdahfpfgdaaGreatDoor.PgW
open Go Go.RowKit Go.Maps Go.Proofs.YtbjfgdahfpfgdaaGreatDoor.Mem Go.Proofs.YtbjfgdahfpfgdaaGreatDoor.MapsW Go.Proofs.YtbjfgdahfpfgdaaGreatDoor.SeeW Go.Proofs.YtbjfgdahfpfgdaaGreatDoor.DevG Go.Proofs.YtbjfgdahfpfgdaaGreatDoor.PairG Go.Proofs.YtbjfgdahfpfgdaaGreatDoor.RefsW Go.Proofs.YtbjfgdahfpfgdaaGreatDoor.PgP
set_option linter.unusedVariables false
set_option maxRecDepth 100000

/-- pairs written one behind the other -/
def wall (D : Dv) (h : Nat) : List (Nat × List Nat) → Option Nat × Dv
  | [] => (none, D)
  | iw :: ws => match wpair D h iw.1 iw.2 with
    | (none, D') => wall D' h ws
    | (some q, D') => (some q, D')
theorem wall_append (h : Nat) : ∀ (xs ys : List (Nat × List Nat)) (D : Dv), wall D h (xs ++ ys) = match wall D h xs with | (none, D') => wall D' h ys | (some q, D') => (some q, D')
  | [], ys, D => rfl
  | a :: xs, ys, D => by
    simp only [List.cons_append, wall]
    rcases hw : wpair D h a.1 a.2 with ⟨_ | q, D'⟩
    · exact wall_append h xs ys D'
    · rfl
theorem wall_snoc {D D' : Dv} {h : Nat} {xs : List (Nat × List Nat)} (i : Nat) (l : List Nat) (ha : wall D h xs = (none, D')) : wall D h (xs ++ [(i, l)]) = wpair D' h i l := by
  rw [wall_append, ha]
  simp only [wall]
  rcases wpair D' h i l with ⟨_ | q, D2⟩ <;> rfl
theorem wall_fail {D D' : Dv} {h q : Nat} {xs ys : List (Nat × List Nat)} (ha : wall D h xs = (some q, D')) : wall D h (xs ++ ys) = (some q, D') := by
  rw [wall_append, ha]
theorem wpair_in (D : Dv) (h i : Nat) (l : List Nat) : (wpair D h i l).2.np ≤ D.np + 2 ∧ (wpair D h i l).2.calls ≤ D.calls + 2 ∧ (wpair D h i l).2.blocks = D.blocks ∧ (wpair D h i l).2.fuse ≤ D.fuse := by
  unfold wpair
  split
  · have h := D.tick_same
    exact ⟨by simp [h.2.2.2.2.2.2.1], by simp [h.2.2.2.2.2.2.2.2.1], by simp [h.1], by simp [h.2.2.2.2.2.2.2.2.2]⟩
  · split
    · have h1 := DevG.Dv.wrote_np D i l
      have h := (DevG.Dv.wrote D i l).tick_same
      refine ⟨by simp only [h.2.2.2.2.2.2.1]; omega, by simp only [h.2.2.2.2.2.2.2.2.1]; omega, by simp only [h.1]; exact h1.2.2.1, ?_⟩
      have := h.2.2.2.2.2.2.2.2.2
      simp only
      omega
    · exact wstage_in D h i l 2
/-- all that a store's write does -/
def Dv.commit (D : Dv) (H ep : Nat) (ws : List (Nat × List Nat)) (T : List Ref) : Option Nat × Dv :=
  match wall D H ws with
  | (some q, D') => (some q, D')
  | (none, D') => match D'.flushT with
    | (some q, D2) => (some q, D2)
    | (none, D2) => D2.save (GeoW.half D.blocks) ep (RootP.enc ⟨ep, T⟩)
theorem sumP_fst (N : Int → Option (List Nat)) (F : Int → Option Ref) (p q : Nat) : (tref (sumP N F p) q).1 = (tref F q).1 := by
  unfold sumP tref upd
  by_cases h : (q : Int) = p
  · rw [if_pos h, h]; rfl
  · rw [if_neg h]
theorem sumsP_fst (N : Int → Option (List Nat)) (q : Nat) : ∀ (ps : List Nat) (F : Int → Option Ref), (tref (sumsP N F ps) q).1 = (tref F q).1
  | [], F => rfl
  | p :: ps, F => (sumsP_fst N q ps (sumP N F p)).trans (sumP_fst N F p q)
theorem sumsP_snoc (N : Int → Option (List Nat)) (F : Int → Option Ref) (ps : List Nat) (p : Nat) : sumsP N F (ps ++ [p]) = sumP N (sumsP N F ps) p := by simp [sumsP, List.foldl_append]
theorem sumT_fst (F : Int → Option Ref) (T : List Ref) (t u : Nat) : ((sumT F T t).getD u (0, 0)).1 = (T.getD u (0, 0)).1 := by
  unfold sumT
  by_cases hu : u < T.length
  · by_cases h : t = u
    · subst h
      simp [List.getD, hu]
    · simp [List.getD, List.getElem?_set_ne h]
  · simp [List.getD, hu]
theorem sumsT_fst (F : Int → Option Ref) (u : Nat) : ∀ (ts : List Nat) (T : List Ref), ((sumsT F T ts).getD u (0, 0)).1 = (T.getD u (0, 0)).1
  | [], T => rfl
  | t :: ts, T => (sumsT_fst F u ts (sumT F T t)).trans (sumT_fst F T t u)
theorem sumsT_snoc (F : Int → Option Ref) (T : List Ref) (ts : List Nat) (t : Nat) : sumsT F T (ts ++ [t]) = sumT F (sumsT F T ts) t := by simp [sumsT, List.foldl_append]
theorem sumsT_length (F : Int → Option Ref) : ∀ (ts : List Nat) (T : List Ref), (sumsT F T ts).length = T.length
  | [], T => rfl
  | t :: ts, T => by rw [show sumsT F T (t :: ts) = sumsT F (sumT F T t) ts from rfl, sumsT_length]; simp [sumT]
theorem sumP_ok {N : Int → Option (List Nat)} {F : Int → Option Ref} (hN : ∀ p : Nat, ((N (p : Int)).getD []).length ≤ 255 ∧ Crc.Bytes ((N (p : Int)).getD [])) (h : ∀ i r, F i = some r → 0 ≤ r.1 ∧ r.1 ≤ 6000 ∧ r.2 < 4294967296) (p : Nat) : ∀ i r, sumP N F p i = some r → 0 ≤ r.1 ∧ r.1 ≤ 6000 ∧ r.2 < 4294967296 := by
  intro i r hr
  unfold sumP upd at hr
  split at hr
  · cases hr
    have : Crc.sum (pblk ((N (p : Int)).getD [])) < 4294967296 := Crc.sum_lt (pblk_bytes (hN p).1 (hN p).2)
    unfold tref
    cases hF : F (p : Int) with
    | none => exact ⟨by simp, by simp, this⟩
    | some r => exact ⟨(h _ _ hF).1, (h _ _ hF).2.1, this⟩
  · exact h _ _ hr
theorem sumsP_ok {N : Int → Option (List Nat)} (hN : ∀ p : Nat, ((N (p : Int)).getD []).length ≤ 255 ∧ Crc.Bytes ((N (p : Int)).getD [])) : ∀ (ps : List Nat) {F : Int → Option Ref} (h : ∀ i r, F i = some r → 0 ≤ r.1 ∧ r.1 ≤ 6000 ∧ r.2 < 4294967296), ∀ i r, sumsP N F ps i = some r → 0 ≤ r.1 ∧ r.1 ≤ 6000 ∧ r.2 < 4294967296
  | [], F, h => h
  | p :: ps, F, h => sumsP_ok hN ps (sumP_ok hN h p)
theorem sumsT_ok {F : Int → Option Ref} : ∀ (ts : List Nat) {T : List Ref} (h : ∀ r ∈ T, 0 ≤ r.1 ∧ r.1 ≤ 6000 ∧ r.2 < 4294967296), ∀ r ∈ sumsT F T ts, 0 ≤ r.1 ∧ r.1 ≤ 6000 ∧ r.2 < 4294967296
  | [], T, h => h
  | t :: ts, T, h => sumsT_ok ts fun r hr => by
    rcases List.mem_or_eq_of_mem_set hr with hr | rfl
    · exact h r hr
    · have hs : Crc.sum (tblk F t) < 4294967296 := Crc.sum_lt (tblk_bytes F t)
      by_cases ht : t < T.length
      · have := h T[t] (List.getElem_mem ht)
        simp only [List.getD, List.getElem?_eq_getElem ht, Option.getD_some]
        exact ⟨this.1, this.2.1, hs⟩
      · simp [List.getD, ht, hs]
theorem splice_page {l : List Nat} {q : Nat} (hl : l.length ≤ 255) : splice ((List.replicate 256 0).set 0 q) 1 l = Crc.pad (q :: l) := by
  have e : (List.replicate 256 0).set 0 q = q :: List.replicate 255 0 := rfl
  rw [e]
  unfold splice Crc.pad
  simp only [List.take_succ_cons, List.take_zero, List.length_cons, List.cons_append, List.nil_append]
  rw [Nat.add_comm 1 l.length, List.drop_succ_cons, List.drop_replicate]
  rw [show 256 - (l.length + 1) = 255 - l.length by omega]
end Go.Proofs.YtbjfgdahfpfgdaaGreatDoor.PgW

namespace Go.Proofs.YtbjfgdahfpfgdaaGreatDoor.PgW
open Go.Proofs.YtbjfgdahfpfgdaaGreatDoor.RootP Go.Proofs.YtbjfgdahfpfgdaaGreatDoor.MapsW Go.Proofs.YtbjfgdahfpfgdaaGreatDoor.PgP Go.Proofs.YtbjfgdahfpfgdaaGreatDoor.DevG
set_option linter.unusedVariables false
set_option maxRecDepth 100000

abbrev ROk (r : Ref) : Prop := 0 ≤ r.1 ∧ r.1 ≤ 6000 ∧ r.2 < 4294967296
/-- a store that may be written -/
structure SOk (S : St) : Prop where
  t7 : S.tabs.length = 7
  dom : ∀ i, (S.at_ i).isSome = true → 0 ≤ i ∧ i < 256
  ok : ∀ i r, S.at_ i = some r → ROk r
  okT : ∀ r ∈ S.tabs, ROk r
  now : NowOk S.now
/-- a commit: what is told, the store, the device -/
def commitT (S : St) (D : Dv) (H : Nat) : Option Nat × St × Dv :=
  if cnt S.now = 0 then (none, S, D) else
  match laid S H with
  | none => (some 4, S, D)
  | some x => if fits x H then
      match Dv.commit D H (S.ep + 1) (writes S x) (behind S x).tabs with
      | (none, D') => (none, behind S x, D')
      | (some q, D') => (some q, S, D')
    else (some 4, S, D)
theorem mem_frees_lt {S : St} {H a : Nat} (h : a ∈ frees S.tabs S.at_ H) : 2 ≤ a ∧ a < H := ⟨(mem_frees.1 h).2.1, (mem_frees.1 h).1⟩
/-- what a layout gives its writes -/
structure LOk (S : St) (H : Nat) (x : Lay) : Prop where
  P : ∀ p ∈ x.pg, p < 256 ∧ ∃ c l, S.now (p : Int) = some (c :: l) ∧ l.length + 1 ≤ 248 ∧ Crc.Bytes (c :: l) ∧ ∃ f : Nat, f < H ∧ (tref x.at_ p).1 = (f : Int)
  T : ∀ t ∈ x.nt, t < 7 ∧ ∃ f : Nat, f < H ∧ (x.tabs.getD t (0, 0)).1 = (f : Int)
  ok : ∀ i r, x.at_ i = some r → ROk r
  okT : ∀ r ∈ x.tabs, ROk r
  nb : ∀ p : Nat, ((S.now (p : Int)).getD []).length ≤ 255 ∧ Crc.Bytes ((S.now (p : Int)).getD [])
  lp : x.pg.length ≤ cnt S.now
  lt : x.nt.length ≤ 7
  l7 : x.tabs.length = 7
  dom : ∀ i, (x.at_ i).isSome = true → 0 ≤ i ∧ i < 256
theorem keys_cnt (N : Int → Option (List Nat)) : (keys N).length = cnt N := by
  unfold keys cnt
  rw [List.countP_eq_length_filter]
theorem laid_ok {S : St} {H : Nat} {x : Lay} (hS : SOk S) (hH : H ≤ 6000) (hx : laid S H = some x) : LOk S H x := by
  obtain ⟨us, vs, L⟩ := laid_is hS.t7 hx
  obtain ⟨r, hr⟩ := L.pre
  have huf : ∀ a ∈ us, 2 ≤ a ∧ a < H := fun a ha => mem_frees_lt (S := S) (by rw [hr]; simp [ha])
  have hvf : ∀ a ∈ vs, 2 ≤ a ∧ a < H := fun a ha => mem_frees_lt (S := S) (by rw [hr]; simp [ha])
  have hl7 : x.tabs.length = 7 := L.len.trans hS.t7
  have hpm : ∀ p ∈ x.pg, p ∈ keys S.now ∧ needs S.now p = true := fun p hp => by rw [L.pg] at hp; exact List.mem_filter.1 hp
  have htm : ∀ t ∈ x.nt, t ∈ touched (keys S.now) ∧ has x.at_ t = true := fun t ht => by rw [L.nt] at ht; exact List.mem_filter.1 ht
  have hnew : ∀ p ∈ x.pg, ∃ f : Nat, f < H ∧ x.at_ (p : Int) = some ((f : Int), 0) := fun p hp => by
    obtain ⟨j, hj, rfl⟩ := mem_get hp
    have hu : j < us.length := by rw [L.ul]; exact hj
    exact ⟨us[j], (huf _ (List.getElem_mem hu)).2, L.new j hj hu⟩
  have htn : ∀ t ∈ x.nt, ∃ f : Nat, f < H ∧ x.tabs.getD t (0, 0) = ((f : Int), 0) := fun t ht => by
    obtain ⟨j, hj, rfl⟩ := mem_get ht
    have hu : j < vs.length := by rw [L.vl]; exact hj
    exact ⟨vs[j], (hvf _ (List.getElem_mem hu)).2, L.tnew j hj hu⟩
  have hat : ∀ i r, x.at_ i = some r → ROk r ∧ 0 ≤ i ∧ i < 256 := by
    intro i r hi
    by_cases hk : ∃ p ∈ keys S.now, (p : Int) = i
    · obtain ⟨p, hp, rfl⟩ := hk
      have h256 := (mem_keys.1 hp).1
      cases hn : needs S.now p with
      | false => rw [L.gone p hp hn] at hi; cases hi
      | true =>
        obtain ⟨f, h1, h2⟩ := hnew p (by rw [L.pg]; exact List.mem_filter.2 ⟨hp, hn⟩)
        rw [h2] at hi
        cases hi
        exact ⟨⟨by simp only; omega, by simp only; omega, by simp⟩, by omega, by omega⟩
    · rw [L.old i fun p hp e => hk ⟨p, hp, e⟩] at hi
      exact ⟨hS.ok i r hi, hS.dom i (by rw [hi]; rfl)⟩
  refine ⟨fun p hp => ?_, fun t ht => ?_, fun i r hi => (hat i r hi).1, fun r hr => ?_, fun p => ?_, ?_, ?_, hl7, fun i hi => ?_⟩
  · obtain ⟨h1, h2⟩ := hpm p hp
    obtain ⟨h3, h4⟩ := mem_keys.1 h1
    have h5 := needs_true h2
    obtain ⟨f, h6, h7⟩ := hnew p hp
    cases hN : S.now (p : Int) with
    | none => rw [hN] at h4; cases h4
    | some l =>
      rw [hN] at h5
      cases l with
      | nil => exact absurd rfl h5
      | cons c l =>
        have := hS.now.len _ _ hN
        exact ⟨h3, c, l, rfl, by have := this.1; simpa using this, this.2, f, h6, by unfold tref; rw [h7]; rfl⟩
  · obtain ⟨f, h1, h2⟩ := htn t ht
    exact ⟨(mem_touched.1 (htm t ht).1).1, f, h1, by rw [h2]⟩
  · obtain ⟨t, ht, rfl⟩ := mem_get hr
    have ht7 : t < 7 := by omega
    have e : x.tabs.getD t (0, 0) = x.tabs[t] := by simp [List.getD, ht]
    by_cases hto : t ∈ touched (keys S.now)
    · cases hh : has x.at_ t with
      | false => rw [← e, L.tgone t hto hh]; exact ⟨by decide, by decide, by decide⟩
      | true =>
        obtain ⟨f, h1, h2⟩ := htn t (by rw [L.nt]; exact List.mem_filter.2 ⟨hto, hh⟩)
        rw [← e, h2]
        exact ⟨by simp only; omega, by simp only; omega, by simp⟩
    · have h1 := L.told t hto
      have hs : t < S.tabs.length := by rw [hS.t7]; exact ht7
      rw [List.getElem?_eq_getElem ht, List.getElem?_eq_getElem hs] at h1
      rw [Option.some.inj h1]
      exact hS.okT _ (List.getElem_mem hs)
  · cases hN : S.now (p : Int) with
    | none => exact ⟨by simp, fun x hx => by cases hx⟩
    | some l =>
      have := hS.now.len _ _ hN
      exact ⟨by simp only [Option.getD_some]; omega, this.2⟩
  · rw [L.pg, ← keys_cnt]; exact List.length_filter_le _ _
  · rw [L.nt]
    refine Nat.le_trans (List.length_filter_le _ _) ?_
    unfold touched
    refine Nat.le_trans (List.length_filter_le _ _) ?_
    simp
  · cases hx : x.at_ i with
    | none => rw [hx] at hi; cases hi
    | some r => exact (hat i r hx).2
end Go.Proofs.YtbjfgdahfpfgdaaGreatDoor.PgW
