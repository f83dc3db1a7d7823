/- The walk of package dev's Flush, and of New. -/
import Derived.Test.YtagbnacffiagcaaDoorGDevMore
namespace Go.Proofs.YtagbnacffiagcaaDoor.DevG
open Go Go.RowKit Go.Maps Go.Proofs.YtagbnacffiagcaaDoor.Mem Go.Proofs.YtagbnacffiagcaaDoor.MapsW Go.Proofs.YtagbnacffiagcaaDoor.SeeW
set_option linter.unusedVariables false
set_option maxRecDepth 100000

/-- what a device has behind a flush -/
def Dv.flush (D : Dv) : Dv :=
  { D with fl := fun i => if (D.pe i).isSome then D.pe i else D.fl i, fa := fun i => if (D.pe i).isSome then false else D.fa i, fi := fun i => if (D.pe i).isSome then false else D.fi i, pe := fun _ => none, np := 0, calls := D.calls + 1 }
/-- .. under way: what is still to come is as it was -/
def Dv.mid (D : Dv) (left : Lit → Bool) : Dv :=
  { D with fl := fun i => if (D.pe i).isSome && !left (.int .i64 i) then D.pe i else D.fl i, fa := fun i => if (D.pe i).isSome && !left (.int .i64 i) then false else D.fa i, fi := fun i => if (D.pe i).isSome && !left (.int .i64 i) then false else D.fi i }
theorem mid_start (D : Dv) (left : Lit → Bool) (h : ∀ i, (D.pe i).isSome = true → left (.int .i64 i) = true) : D.mid left = D := by
  have : ∀ i, ((D.pe i).isSome && !left (.int .i64 i)) = false := by
    intro i
    cases hp : (D.pe i).isSome
    · rfl
    · rw [h i hp]; rfl
  unfold Dv.mid
  simp [this]
theorem same_int (i j : Int) : (Lit.int .i64 i).sameKey (.int .i64 j) = decide (i = j) := by
  by_cases h : i = j
  · subst h; rw [WideAt.sameKey_self (islit i)]; simp
  · rw [sameKey_ne (litne h)]; simp [h]
theorem mid_step (D : Dv) (left : Lit → Bool) (x : Int) (l : List Nat) (hp : D.pe x = some l) : (D.mid left).lay x l = D.mid (fun z => left z && !z.sameKey (.int .i64 x)) := by
  have hs : (D.pe x).isSome = true := by rw [hp]; rfl
  unfold Dv.lay Dv.mid
  simp only [same_int]
  congr 1
  · funext j
    by_cases hj : j = x
    · subst hj; rw [upd_same, hs]; simp [hp]
    · rw [upd_other _ _ hj]; simp [hj]
  · funext j
    by_cases hj : j = x
    · subst hj; rw [upd_same, hs]; simp
    · rw [upd_other _ _ hj]; simp [hj]
  · funext j
    by_cases hj : j = x
    · subst hj; rw [upd_same, hs]; simp
    · rw [upd_other _ _ hj]; simp [hj]

theorem ranges_of {w w' : World} {b r n : Nat} {D : DataW Unit} {left : Lit → Bool} {cnt : Nat} (h : w.ranges Tryd.prog 3 rowR b r n D left cnt) (e1 : w'.heap[b]? = w.heap[b]?) (e2 : w'.heap[r]? = w.heap[r]?) : w'.ranges Tryd.prog 3 rowR b r n D left cnt := by
  obtain ⟨es, clock, since, seen, c0, h1, h2, h3, h4, h5, h6⟩ := h
  exact ⟨es, clock, since, seen, c0, e1.trans h1, h2, h3, h4, e2.trans h5, h6⟩
theorem ranges_iter {w : World} {b r n : Nat} {D : DataW Unit} {left : Lit → Bool} {cnt : Nat} (h : w.ranges Tryd.prog 3 rowR b r n D left cnt) : NoCells w r ∧ (∀ es ck, w.heap[r]? ≠ some (.map es ck)) ∧ r < w.heap.size := by
  obtain ⟨es, clock, since, seen, c0, h1, h2, h3, h4, h5, h6⟩ := h
  refine ⟨fun c t f e => ?_, fun es ck e => ?_, (Array.getElem?_eq_some_iff.1 h5).1⟩ <;> rw [h5] at e <;> cases e
/-- an element as it is met -/
def mkV : Option (Nat × Nat × Nat) → Value
  | none => .slice none 0 0
  | some (g, n, cap) => .slice (some ⟨g, 0, none⟩) n cap
theorem invV (v : Value) (y : DataW Unit × List MemPlace) (h : rowR v = some y) : ∃ c, v = mkV c := by
  unfold rowR at h
  split at h
  · exact ⟨none, rfl⟩
  · exact ⟨some (_, _, _), rfl⟩
  · cases h
theorem invK (k : Value) (kl : Lit) (h : keyOf Tryd.prog 3 k = some kl) : ∃ x : Int, k = .int .i64 x := by
  obtain ⟨x, rfl, _⟩ := Maps.keyOf_int_inv Tryd.underlying3 h
  exact ⟨x, rfl⟩

theorem Turn.of_none {S : List Nat} {a b : World} (h : a.grownBy b none) : Turn S a b := ⟨h.os, h.tape, h.output, h.size, fun k hk _ => h.block k hk (by simp)⟩
/-- another map of what is pending -/
theorem At.swapP {w : World} {lo d n p' : Nat} {m : Mp} {D : Dv} (h : At w lo d n m D) (hr : RowMap w 0 p' n (fun _ => none) 0) (hlo : lo ≤ p') (hp : p' ∉ m.list) :
    At (w.setCell ⟨d, 2, none⟩ (.map (some p'))) lo d n { m with p := p' } { D with pe := fun _ => none, np := 0 } := by
  have ht : Turn [d] w (w.setCell ⟨d, 2, none⟩ (.map (some p'))) := Turn.setCell w d 2 _ (by simp)
  obtain ⟨n1, n2, n3, n4, n5⟩ := h.ne
  obtain ⟨e1, e2, e3, e4, e5, e6, e7, e8, e9, e10⟩ := h.nd
  obtain ⟨k, hk⟩ := h.rf
  have hS : ∀ x ∈ [d], x < 0 ∨ NoCells w x ∨ ∃ v, w.cell? ⟨x, 0, none⟩ = some v ∧ ∀ z, v ≠ .int .u8 z := by
    intro x hx
    rw [List.mem_singleton.1 hx]
    exact .inr (.inr ⟨_, h.c.1, fun z e => by cases e⟩)
  have hpd : p' ≠ d := by
    obtain ⟨es, ck, hb⟩ := hr.block
    rintro rfl
    rw [h.cells] at hb
    cases hb
  simp [Mp.list] at hp
  obtain ⟨q1, q2, q3, q4, q5⟩ := hp
  refine ⟨?_, ⟨k, rows_turn hk ht (by simp; omega) hS⟩, rows_turn hr ht (by simp; omega) hS, bools_turn h.ba ht (by simp; omega), bools_turn h.bi ht (by simp; omega), sets_turn h.be ht (by simp; omega), ?_, h.lod, ?_⟩
  · have := h.cells
    simp [World.setCell, Array.getElem?_modify, this]
  · simp only [Mp.list, List.nodup_cons, List.mem_cons, List.not_mem_nil, or_false, not_or, not_false_eq_true, List.nodup_nil, and_true]
    exact ⟨⟨fun e => q1 e.symm, e2, e3, e4⟩, ⟨q3, q4, q5⟩, ⟨e8, e9⟩, e10⟩
  · intro x hx
    simp only [Mp.list, List.mem_cons, List.not_mem_nil, or_false] at hx
    rcases hx with rfl | rfl | rfl | rfl | rfl
    · exact h.lom _ (by simp [Mp.list])
    · exact hlo
    · exact h.lom _ (by simp [Mp.list])
    · exact h.lom _ (by simp [Mp.list])
    · exact h.lom _ (by simp [Mp.list])

/-- a flush: what is told, what the device has then -/
def Dv.flushT (D : Dv) : Option Nat × Dv := if D.tick.down then (some 5, D.tick) else (none, D.tick.flush)
set_option maxHeartbeats 3200000 in
theorem flush_ok (d lo n : Nat) (m : Mp) (D0 : Dv) (w : World) (h : At w lo d n m D0) (hn : n < 20000) (hp : D0.np < 20000) (hc : D0.calls < 1000000) (hz : D0.fuse ≤ 1000000) (hdn : D0.tick.down = false) :
    Calls Tryd.prog 15 #[ptr d] w fun e w' => e = .returned .nilIface ∧ ∃ p', w.heap.size ≤ p' ∧ At w' lo d (n + 3 * D0.np) { m with p := p' } D0.tick.flush ∧ Turn (own d m) w w' := by
  have hmm := @run_makeMap Tryd.prog
  have hmp : m.p ∈ m.list ∧ m.f ∈ m.list ∧ m.a ∈ m.list ∧ m.i ∈ m.list := by simp [Mp.list]
  have hnpe : D0.np = D0.tick.np := D0.tick_same.2.2.2.2.2.2.1.symm
  have hce : D0.calls = D0.tick.calls := D0.tick_same.2.2.2.2.2.2.2.2.1.symm
  rw [hnpe] at hp ⊢
  rw [hce] at hc
  clear hnpe hce
  obtain ⟨D, hDt⟩ : ∃ x, x = D0.tick := ⟨_, rfl⟩
  rw [← hDt] at hp hc hdn ⊢
  go_enter Tryd.func15, Tryd.ntmps15
  go_wp2_with fail
  refine (gone_w d lo n m D0 _ h hz).mono ?_
  rintro e w0 ⟨rfl, h0, t0⟩
  rw [← hDt] at h0 ⊢
  rw [hdn]
  have hs0 := t0.size
  have T0 := own1 (m := m) t0
  clear h hdn t0 hz hDt
  have h := h0
  obtain ⟨c0, c1, c2, c3, c4, c5, c6, c7, c8, f6, f2, f7, f8⟩ := h.c
  have hrp := h.rp
  obtain ⟨E, hE, hnp, hEi⟩ := hrp
  have hdl := h.dlt
  have hml : ∀ x ∈ m.list, x < w0.heap.size := fun x hx => by
    obtain ⟨es, ck, hb⟩ := h.maps x hx
    exact (Array.getElem?_eq_some_iff.1 hb).1
  go_wp2_with (at_range; refine wpList_range_own _ rfl _ 120 rfl 3 28 law Tryd.underlying120 rowR m.p n E rfl hE ?_; intro wq hrg0 hg0 hsq)
  go_frame
  have hE0 : ∀ i, (D.pe i).isSome = true → has E (.int .i64 i) = true := by
    intro i hi
    have := hEi i
    cases hF : D.pe i with
    | none => rw [hF] at hi; cases hi
    | some l => rw [hF] at this; exact this.1
  have H := hid h
  clear c0 c1 c2 c3 c4 c5 c6 c7 c8 f6 f2 f7 f8
  go_loopw [3] (fun _ wr => ∃ (left : Lit → Bool) (cnt : Nat), wr.ranges Tryd.prog 3 rowR m.p w0.heap.size n E left cnt ∧ At wr lo d (n + 3 * (D.np - cnt)) m (D.mid left) ∧ cnt ≤ D.np ∧ Turn (own d m) w0 wr ∧ w0.heap.size < wr.heap.size)
    (fun _ wr => wr.rangeLeft m.p w0.heap.size)
  case atStart =>
    refine ⟨_, _, hrg0, ?_, by omega, Turn.of_none hg0, by omega⟩
    rw [mid_start D _ hE0]
    exact (h.turn (S := []) (Turn.of_none hg0) (by simp) (by simp) (by simp)).mono (by omega) (Nat.le_refl _)
  case round =>
    clear hrg0 hg0 hsq
    obtain ⟨left, cnt, hrg, hat, hcnt, hT, hsz⟩ := hrel
    go_wp2_with (at_next; refine wpList_next_ranges _ rfl _ rfl 3 law rowR (Value.int .i64) mkV invK invV m.p w0.heap.size n _ _ _ rfl hrg ?_ ?_)
    · intro h0 hl0
      have ha := hat.below ((Below.refl _ wr).alloc (Nat.le_refl _) (.map #[] 0))
      obtain ⟨c0, c1, c2, c3, c4, c5, c6, c7, c8, f6, f2, f7, f8⟩ := ha.c
      simp only [Dv.mid] at c0 c6
      have hr0 := RowMap.made wr 0
      have hsw := ha.swapP (hr0.mono (n' := n + 3 * (D.np - cnt)) (by omega) (Nat.le_refl _)) (by have := hat.dlt; have := hat.lod; omega) (fun hm => by have := hml _ hm; omega)
      have htk := hsw.count (D.calls + 1)
      rw [show ((D.calls + 1 : Nat) : Int) = (D.calls : Int) + 1 by omega] at htk
      have hT2 : Turn (own d m) w0 (((wr.alloc (.map #[] 0)).setCell ⟨d, 2, none⟩ (.map (some wr.heap.size))).setCell ⟨d, 6, none⟩ (.int .i64 ((D.calls : Int) + 1))) :=
        ((hT.then (Turn.of_below ((Below.refl _ wr).alloc (Nat.le_refl _) _))).then (Turn.setCell _ _ _ _ (mem_own d m).1)).then (Turn.setCell _ _ _ _ (mem_own d m).1)
      have HK := hid htk
      clear htk hsw hr0 ha hat hrg hE hEi hE0
      go_wp2
      go_ret
      refine ⟨rfl, wr.heap.size, by omega, ?_, T0.then hT2⟩
      have e1 : { (D.mid left) with pe := fun _ => none, np := 0, calls := D.calls + 1 } = D.flush := by
        unfold Dv.mid Dv.flush
        simp [hl0]
      rw [← e1]
      exact HK.out.mono (by omega) (Nat.le_refl _)
    · intro x c kl ya yb w1 cnt1 hkey hlx hR hat1 hrg1 hlt hg1 hs1 hen
      obtain ⟨x', ex, rfl, hwx⟩ := Maps.keyOf_int_inv Tryd.underlying3 hkey
      cases ex
      have hfx : Fits x := int_of hwx
      obtain ⟨ri1, ri2, ri3⟩ := ranges_iter hrg
      have hrm : w0.heap.size ∉ m.list := fun hm => absurd (hml _ hm) (by omega)
      have h1 : At w1 lo d (n + 3 * (D.np - cnt)) m (D.mid left) := hat.turn (S := [w0.heap.size]) (Turn.of_grown hg1 (by simp)) (by simp; omega) (fun z hz => by simp; rintro rfl; exact hrm hz) (fun z hz => by rw [List.mem_singleton.1 hz]; exact .inl ri1)
      have hT1 : Turn (own d m) w0 w1 := hT.trans (Turn.of_grown (S := [w0.heap.size]) hg1 (by simp)) (fun z hz => by rw [List.mem_singleton.1 hz]; exact .inr (Nat.le_refl _))
      have hx := hEi x
      cases hF : D.pe x with
      | none =>
        exfalso
        rw [hF] at hx
        have e1 := hat1 .nil
        have e2 := hat1 (.agg [])
        rw [atKey_of_not_has hx] at e1 e2
        rw [← e1] at e2
        cases e2
      | some l =>
        rw [hF] at hx
        obtain ⟨_, g, cap, b1, b2, b3⟩ := hx
        have ey : ya = rowd g 256 cap := (hat1 .nil).symm.trans (b1 .nil)
        have hc1 : mkV c = .slice (some ⟨g, 0, none⟩) 256 cap := rowR_row (ps := yb) (by rw [hR, ← ey])
        obtain ⟨cc, tt, ff, hcc⟩ := nums_cells b2 (by decide)
        have hn1 := nums_of_cells b2 (hT1.block g (Array.getElem?_eq_some_iff.1 hcc).1 (h.out hcc (h.nerow b2)))
        rw [hc1] at hen ⊢
        have hM := mid_step D left x l hF
        clear hat1 hR b1 b2 ey hkey
        go_wp2_with fail
        refine (lay_w d lo _ m _ x g cap l _ h1 hfx hn1 (by omega) (by omega)).mono ?_
        rintro e w2 ⟨rfl, h2, t2⟩
        rw [hM] at h2
        have z1 := t2.size
        have rr := ranges_of hrg1 (t2.block m.p (by have := hml _ hmp.1; omega) (by
          obtain ⟨q1, q2, q3, q4, q5, q6, q7, q8, q9, q10⟩ := h.nd
          simp
          exact ⟨fun e => q1 e.symm, q5, q6⟩)) (t2.block w0.heap.size (by omega) (by
          simp
          exact ⟨fun e => by have := hml _ hmp.2.1; omega, fun e => by have := hml _ hmp.2.2.1; omega, fun e => by have := hml _ hmp.2.2.2; omega⟩))
        have t3 : Turn (own d m) w0 w2 := hT1.then (t2.mono (by simp [own, Mp.list]))
        go_wp2_with fail
        go_roundw
        case rel => exact ⟨_, cnt1, rr, h2.mono (by omega) (Nat.le_refl _), by omega, t3, by omega⟩
        case measure => rw [rr.left_eq, hrg.left_eq]; exact hlt
theorem flush_w (bs : List Addr) (d lo n : Nat) (m : Mp) (D : Dv) (w : World) (h : At w lo d n m D) (hB : Ev w lo bs five) (hn : n < 20000) (hp : D.np < 20000) (hc : D.calls < 1000000) (hz : D.fuse ≤ 1000000) :
    Calls Tryd.prog 15 #[ptr d] w fun e w' => (∃ v, Says bs D.flushT.1 v ∧ e = .returned v) ∧ ∃ p', (p' = m.p ∨ w.heap.size ≤ p') ∧ At w' lo d (n + 3 * D.np) { m with p := p' } D.flushT.2 ∧ Turn (own d m) w w' := by
  unfold Dv.flushT
  by_cases h1 : D.tick.down = true
  · rw [if_pos h1]
    obtain ⟨aF, haF, hAF⟩ := hB.get 5 _ (by decide) rfl
    go_enter Tryd.func15, Tryd.ntmps15
    go_wp2_with fail
    refine (gone_w d lo n m D _ h hz).mono ?_
    rintro e w0 ⟨rfl, h0, t0⟩
    rw [h1]
    have hA1 := ((hB.turn t0 (fun x hx => by rw [List.mem_singleton.1 hx]; exact h.lod)).get 5 _ (by decide) rfl)
    obtain ⟨a', ha', hA1, _⟩ := hA1
    obtain rfl := Option.some.inj (ha'.symm.trans haF)
    go_wp2
    go_ret
    exact ⟨⟨_, ⟨_, haF, rfl⟩, rfl⟩, m.p, .inl rfl, h0.mono (by omega) (Nat.le_refl _), own1 t0⟩
  · rw [if_neg h1]
    refine (flush_ok d lo n m D w h hn hp hc hz (by simpa using h1)).mono ?_
    rintro e w' ⟨rfl, p', h2, h3, h4⟩
    exact ⟨⟨_, rfl, rfl⟩, p', .inr h2, h3, h4⟩
end Go.Proofs.YtagbnacffiagcaaDoor.DevG
