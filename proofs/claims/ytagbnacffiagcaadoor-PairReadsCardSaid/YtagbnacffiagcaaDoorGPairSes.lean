/- Pairs on a device of one's own: what is done to them, one thing behind the other. -/
import Derived.Test.YtagbnacffiagcaaDoorGPairLaw
import Derived.Test.YtagbnacffiagcaaDoorGDevOk
namespace Go.Proofs.YtagbnacffiagcaaDoor.PairG
open Go Go.RowKit Go.Maps Go.Proofs.YtagbnacffiagcaaDoor.Mem Go.Proofs.YtagbnacffiagcaaDoor.MapsW Go.Proofs.YtagbnacffiagcaaDoor.SeeW Go.Proofs.YtagbnacffiagcaaDoor.DevG Go.Proofs.YtagbnacffiagcaaDoor.BlobW
set_option linter.unusedVariables false
set_option maxRecDepth 100000

theorem new1 (w : World) (x : Nat) : Nums .u8 (w.alloc (.cells #[.int .u8 (x : Int)] 5)) (some ⟨w.heap.size, 0, none⟩) 1 1 [x] :=
  Row.fresh w #[.int .u8 (x : Int)] 5 (0, 0) 1 rfl (by decide)

/-- a write of both, flushed -/
theorem put2_pe (D : Dv) (h i : Nat) (l : List Nat) (hh : 0 < h) (j : Int) : (put2 D h i l).pe j = if j = i ∨ j = ((i + h : Nat) : Int) then some l else D.pe j := by
  show upd (upd D.pe i (some l)) ((i + h : Nat) : Int) (some l) j = _
  unfold upd
  by_cases h1 : j = ((i + h : Nat) : Int)
  · rw [if_pos h1, if_pos (.inr h1)]
  · rw [if_neg h1]
    by_cases h2 : j = i
    · rw [if_pos h2, if_pos (.inl h2)]
    · rw [if_neg h2, if_neg (by rintro (h | h); exact h2 h; exact h1 h)]

/-- what stands at a pair behind a write and a flush -/
theorem flushed (D : Dv) (h i : Nat) (l : List Nat) (hh : 0 < h) (j : Int) (hj : j = i ∨ j = ((i + h : Nat) : Int)) :
    (put2 D h i l).flush.pe j = none ∧ (put2 D h i l).flush.fl j = some l ∧ (put2 D h i l).flush.fa j = false ∧ (put2 D h i l).flush.fi j = false := by
  have e := put2_pe D h i l hh j
  rw [if_pos hj] at e
  refine ⟨rfl, ?_, ?_, ?_⟩
  · show (if ((put2 D h i l).pe j).isSome then (put2 D h i l).pe j else _) = _
    rw [e]; rfl
  · show (if ((put2 D h i l).pe j).isSome then false else _) = _
    rw [e]; rfl
  · show (if ((put2 D h i l).pe j).isSome then false else _) = _
    rw [e]; rfl
/-- elsewhere -/
theorem flushed_other (D : Dv) (h i : Nat) (l : List Nat) (hh : 0 < h) (j : Int) (hj : ¬ (j = i ∨ j = ((i + h : Nat) : Int))) (hp : D.pe j = none) :
    (put2 D h i l).flush.pe j = none ∧ (put2 D h i l).flush.fl j = D.fl j ∧ (put2 D h i l).flush.fa j = D.fa j ∧ (put2 D h i l).flush.fi j = D.fi j := by
  have e := put2_pe D h i l hh j
  rw [if_neg hj, hp] at e
  refine ⟨rfl, ?_, ?_, ?_⟩
  · show (if ((put2 D h i l).pe j).isSome then (put2 D h i l).pe j else _) = _
    rw [e]; rfl
  · show (if ((put2 D h i l).pe j).isSome then false else _) = _
    rw [e]; rfl
  · show (if ((put2 D h i l).pe j).isSome then false else _) = _
    rw [e]; rfl
/-- a copy turned -/
theorem spoiled (E : Dv) (i : Int) (at_ : Int) (t : Nat) (hr : 0 ≤ i ∧ i < (E.blocks : Int)) (ha2 : 0 ≤ at_ ∧ at_ ≤ 252) (h0 : t ≠ 0) (hp : E.pe i = none) (ha : E.fa i = false) : E.may i = true ∧ E.spoil i at_ t = { E with fl := upd E.fl i (some (Crc.turned (keptOf E i) at_ t)) }.fault i := by
  have hm : E.may i = true := by unfold Dv.may; rw [hp, ha, decide_eq_true hr]; rfl
  refine ⟨hm, spoil_yes ?_⟩
  unfold Dv.mayS
  rw [hm, decide_eq_true ⟨ha2.1, ha2.2, h0⟩]
  rfl
theorem spoiled_read (E : Dv) (i : Int) (at_ : Int) (t : Nat) (hr : 0 ≤ i ∧ i < (E.blocks : Int)) (ha2 : 0 ≤ at_ ∧ at_ ≤ 252) (h0 : t ≠ 0) (hp : E.pe i = none) (ha : E.fa i = false) (hi : E.fi i = false) : (E.spoil i at_ t).read i = some (Crc.turned (keptOf E i) at_ t) := by
  have h1 := read_flushed (D := E.spoil i at_ t) (j := i) (by rw [(spoiled E i at_ t hr ha2 h0 hp ha).2]; exact hp) (by rw [(spoiled E i at_ t hr ha2 h0 hp ha).2]; exact hi)
  rw [h1, (spoiled E i at_ t hr ha2 h0 hp ha).2]
  show some ((upd E.fl i (some _) i).getD _) = _
  rw [upd_same]
  rfl
theorem spoiled_other (E : Dv) (i j : Int) (at_ : Int) (t : Nat) (hj : j ≠ i) : (E.spoil i at_ t).read j = E.read j := by
  unfold Dv.spoil
  split
  · show (match E.pe j with | some l => some l | none => if E.fi j then none else some ((upd E.fl i (some _) j).getD _)) = _
    rw [upd_other _ _ hj]
    rfl
  · rfl
theorem kept_of {E : Dv} {i : Int} {l : List Nat} (h : E.fl i = some l) : keptOf E i = l := by unfold keptOf; rw [h]; rfl

theorem put2_np (D : Dv) (h i : Nat) (l : List Nat) : (put2 D h i l).np ≤ D.np + 2 := by
  have : ∀ (E : Dv) (j : Int), (E.put j l).np ≤ E.np + 1 := fun E j => by
    show (if (E.pe j).isSome then E.np else E.np + 1) ≤ _
    split <;> omega
  have h1 := this D i
  have h2 := this (D.put i l) ((i + h : Nat) : Int)
  show ((D.put i l).put _ l).np ≤ _
  omega

/-- pairs on a device, all of it made behind the world w0 -/
structure Ses (w0 w : World) (n : Nat) (m : Mp) (D : Dv) (p h c : Nat) : Prop where
  k : PAt w w0.heap.size (w0.heap.size + 5) n m D p h c
  b : Below w0.heap.size w0 w
  ok : Ok D
abbrev all (w0 : World) (m : Mp) (p : Nat) : List Nat := p :: own (w0.heap.size + 5) m
theorem Ses.all_lo {w0 w : World} {n : Nat} {m : Mp} {D : Dv} {p h c : Nat} (s : Ses w0 w n m D p h c) : ∀ x ∈ all w0 m p, w0.heap.size ≤ x := by
  intro x hx
  rcases List.mem_cons.1 hx with rfl | hx
  · exact s.k.lop
  · exact s.k.dev.own_lo x hx
theorem Ses.step {w0 w w' : World} {n n' : Nat} {m m' : Mp} {D D' : Dv} {p h c c' : Nat} (s : Ses w0 w n m D p h c) (k : PAt w' w0.heap.size (w0.heap.size + 5) n' m' D' p h c') (t : Turn (all w0 m p) w w') (ok : Ok D') : Ses w0 w' n' m' D' p h c' :=
  ⟨k, s.b.trans (t.below s.b.size s.all_lo), ok⟩
theorem up1 {w0 : World} {m : Mp} {p : Nat} {w w' : World} (t : Turn (own (w0.heap.size + 5) m) w w') : Turn (all w0 m p) w w' := t.mono fun x hx => List.mem_cons_of_mem _ hx
theorem Ses.dev {w0 w w' : World} {n n' : Nat} {m m' : Mp} {D D' : Dv} {p h c : Nat} (s : Ses w0 w n m D p h c) (k : At w' w0.heap.size (w0.heap.size + 5) n' m' D') (t : Turn (own (w0.heap.size + 5) m) w w') (hb : D'.blocks = D.blocks) (ok : Ok D') (hu : D'.down = false) (hz : D'.fuse = 0) : Ses w0 w' n' m' D' p h c :=
  s.step (s.k.turn k t hb hu hz) (up1 t) ok
theorem Ses.below {w0 w w' : World} {n : Nat} {m : Mp} {D : Dv} {p h c : Nat} (s : Ses w0 w n m D p h c) (hb : Below w.heap.size w w') : Ses w0 w' n m D p h c :=
  ⟨s.k.below hb, s.b.trans (hb.mono s.b.size), s.ok⟩
theorem Ses.cells {w0 w w' : World} {n : Nat} {m : Mp} {D : Dv} {p h c : Nat} (s : Ses w0 w n m D p h c) (t : Turn (all w0 m p) w w') {x : Nat} {cs : Array Value} {ty : TypeId} {f : Nat × Nat} (hc : w.heap[x]? = some (.cells cs ty f)) (hp : x ≠ p) (hd : x ≠ w0.heap.size + 5) : w'.heap[x]? = some (.cells cs ty f) := by
  refine t.cells hc fun hm => ?_
  rcases List.mem_cons.1 hm with e | hm
  · exact hp e
  · exact s.k.dev.out hc hd hm
theorem Ses.nums {w0 w w' : World} {n : Nat} {m : Mp} {D : Dv} {p h c : Nat} (s : Ses w0 w n m D p h c) (t : Turn (all w0 m p) w w') {a : Option Addr} {k cap : Nat} {l : List Nat} (hl : Nums .u8 w a k cap l) : Nums .u8 w' a k cap l :=
  nums_turn hl t (PAt.nou8 s.k)
theorem Ses.bt {w0 w : World} {n : Nat} {m : Mp} {D : Dv} {p h c : Nat} (s : Ses w0 w n m D p h c) (j : Int) (l : List Nat) (hl : D.read j = some l) : Crc.Bytes l := (s.ok.read hl).1
theorem Ses.bs {w0 w : World} {n : Nat} {m : Mp} {D : Dv} {p h c : Nat} (s : Ses w0 w n m D p h c) {bs : List Addr} (h0 : Ev w0 w0.heap.size bs five) : Ev w w0.heap.size bs five := h0.below s.b
theorem Ses.plt {w0 w : World} {n : Nat} {m : Mp} {D : Dv} {p h c : Nat} (s : Ses w0 w n m D p h c) : p < w.heap.size := (Array.getElem?_eq_some_iff.1 s.k.cells).1
theorem Ses.dlt {w0 w : World} {n : Nat} {m : Mp} {D : Dv} {p h c : Nat} (s : Ses w0 w n m D p h c) : w0.heap.size + 5 < w.heap.size := s.k.dev.dlt

theorem flush_q (d lo n : Nat) (m : Mp) (D : Dv) (w : World) (h : At w lo d n m D) (hn : n < 20000) (hp : D.np < 20000) (hc : D.calls < 1000000) (hu : D.down = false) (hz : D.fuse = 0) :
    Calls Tryd.prog 15 #[ptr d] w fun e w' => e = .returned .nilIface ∧ ∃ p', w.heap.size ≤ p' ∧ At w' lo d (n + 3 * D.np) { m with p := p' } D.flush ∧ Turn (own d m) w w' := by
  have := flush_ok d lo n m D w h hn hp hc (by omega) (by rw [Dv.tick_zero hz]; exact hu)
  rw [Dv.tick_zero hz] at this
  exact this
theorem ses_open (b : Nat) (w : World) (h1 : 300 ≤ b) (h2 : b ≤ 6000) :
    Calls Tryd.prog 10 #[.int .i64 b] w fun e w' => ∃ p, e = .returned (.tuple #[ptr p, ptr (w.heap.size + 5)]) ∧ Ses w w' 0 (mp w.heap.size) (Dv.new b) p (GeoW.half b) 0 := by
  refine (opened_w b w h1 h2).mono ?_
  rintro e w1 ⟨p, rfl, k1, hb1⟩
  exact ⟨p, rfl, k1, hb1, Ok.new b⟩
theorem ses_write {w0 : World} {n : Nat} {m : Mp} {D : Dv} {p h c : Nat} (i : Nat) (a : Option Addr) (cap : Nat) (l : List Nat) (w : World) (s : Ses w0 w n m D p h c) (hi : i < h) (hl : Nums .u8 w a 256 cap l) (hb : Blk l) (hn : n < 90000) (hc : D.calls < 900000) :
    Calls Tryd.prog 12 #[ptr p, .int .i64 i, .slice a 256 cap] w fun e w' => e = .returned (.tuple #[Rf i (Crc.sum l), .nilIface]) ∧ Ses w0 w' (n + 2) m (put2 D h i l) p h c ∧ Turn (all w0 m p) w w' := by
  refine (write_w _ _ n m D p h c i a cap l w s.k hi hl hb.1 hn hc).mono ?_
  rintro e w1 ⟨rfl, k1, t1⟩
  exact ⟨rfl, s.step k1 (up1 t1) ((s.ok.put hb).put hb), up1 t1⟩
theorem ses_flush {w0 : World} {n : Nat} {m : Mp} {D : Dv} {p h c : Nat} (w : World) (s : Ses w0 w n m D p h c) (hn : n < 20000) (hp : D.np < 20000) (hc : D.calls < 1000000) :
    Calls Tryd.prog 15 #[ptr (w0.heap.size + 5)] w fun e w' => e = .returned .nilIface ∧ ∃ m', Ses w0 w' (n + 3 * D.np) m' D.flush p h c ∧ Turn (all w0 m p) w w' := by
  refine (flush_q _ _ _ _ _ _ s.k.dev hn hp hc s.k.up s.k.still).mono ?_
  rintro e w1 ⟨rfl, p', hp', h1, t1⟩
  exact ⟨rfl, _, s.dev h1 t1 rfl s.ok.flush s.k.up s.k.still, up1 t1⟩
theorem ses_spoil {w0 : World} {n : Nat} {m : Mp} {D : Dv} {p h c : Nat} (i at_ t : Nat) (w : World) (s : Ses w0 w n m D p h c) (hi : i < D.blocks) (hn : n < 90000) (ha : at_ ≤ 252) (ht : t < 4294967296) :
    Calls Tryd.prog 16 #[ptr (w0.heap.size + 5), .int .i64 i, .int .i64 at_, .int .u32 t] w fun e w' => e = .returned (.bool (D.may i && decide (t ≠ 0))) ∧ Ses w0 w' (n + 3) m (D.spoil i at_ t) p h c ∧ Turn (all w0 m p) w w' := by
  have hm := s.k.most
  have e : D.mayS i at_ t = (D.may i && decide (t ≠ 0)) := by
    unfold Dv.mayS
    congr 1
    exact decide_eq_decide.2 ⟨fun h => h.2.2, fun h => ⟨by omega, by omega, h⟩⟩
  refine (DevG.spoil_w _ _ _ _ D i at_ t _ s.k.dev (fits_nat (by omega)) hn (fits_nat (by omega)) ht (s.ok.kept i).1).mono ?_
  rintro e' w1 ⟨rfl, h1, t1⟩
  refine ⟨by rw [e], s.dev h1 t1 (by unfold Dv.spoil; split <;> rfl) (s.ok.spoil _ _ _) ?_ ?_, up1 t1⟩
  · unfold Dv.spoil; split <;> exact s.k.up
  · unfold Dv.spoil; split <;> exact s.k.still
theorem ses_fail {w0 : World} {n : Nat} {m : Mp} {D : Dv} {p h c : Nat} (i : Nat) (w : World) (s : Ses w0 w n m D p h c) (hi : i < D.blocks) (hn : n < 90000) :
    Calls Tryd.prog 17 #[ptr (w0.heap.size + 5), .int .i64 i] w fun e w' => e = .returned (.bool (D.may i)) ∧ Ses w0 w' (n + 3) m (D.fail i) p h c ∧ Turn (all w0 m p) w w' := by
  refine (DevG.fail_w _ _ _ _ D i _ s.k.dev (fits_nat (by have := s.k.most; omega)) hn).mono ?_
  rintro e w1 ⟨rfl, h1, t1⟩
  refine ⟨rfl, s.dev h1 t1 (by unfold Dv.fail; split <;> rfl) (s.ok.fail _) ?_ ?_, up1 t1⟩
  · unfold Dv.fail; split <;> exact s.k.up
  · unfold Dv.fail; split <;> exact s.k.still
theorem Ok.readP {D : Dv} (ok : Ok D) (h c i s : Nat) : Ok (readP D h c i s).2.1 := by
  by_cases h1 : ∃ l, D.read i = some l ∧ Crc.sum l = s
  · obtain ⟨l, h1, h2⟩ := h1
    rw [readP_first h1 h2]; exact ok
  · rw [readP_second fun l hl he => h1 ⟨l, hl, he⟩]
    unfold second
    cases hD : D.read (i + h : Nat) with
    | none => exact ok
    | some l' =>
      simp only
      split
      · exact ok.put (ok.read hD)
      · exact ok
def ReadS (bs : List Addr) (w0 w : World) (n : Nat) (m : Mp) (p h : Nat) (r : Option (List Nat) × Dv × Nat) (e : Ending) (w' : World) : Prop :=
  (match r.1 with
    | some l => ∃ g cap, e = .returned (.tuple #[.slice (some ⟨g, 0, none⟩) 256 cap, .nilIface]) ∧ Nums .u8 w' (some ⟨g, 0, none⟩) 256 cap l
    | none => ∃ a, bs[6]? = some a ∧ e = .returned (.tuple #[.slice none 0 0, ev a])) ∧ Ses w0 w' (n + 1) m r.2.1 p h r.2.2 ∧ Turn (all w0 m p) w w'
theorem ses_read {bs : List Addr} {w0 : World} {n : Nat} {m : Mp} {D : Dv} {p h c : Nat} (i s : Nat) (w : World) (S : Ses w0 w n m D p h c) (hB : Ev w0 w0.heap.size bs five) (hi : i < h) (hn : n < 90000) (hc : D.calls < 1000000) (hc2 : c < 1000000) :
    Calls Tryd.prog 19 #[ptr p, Rf i s] w (ReadS bs w0 w n m p h (readP D h c i s)) := by
  refine (read_w bs _ _ n m D p h c i s w S.k (S.bs hB) hi S.bt hn hc hc2).mono ?_
  rintro e w1 ⟨h1, k1, t1⟩
  refine ⟨?_, S.step k1 t1 (Ok.readP S.ok _ _ _ _), t1⟩
  generalize (readP D h c i s).1 = r at h1
  cases r with
  | none => exact h1
  | some l =>
    obtain ⟨g, cap, h2, h3, _⟩ := h1
    exact ⟨g, cap, h2, h3⟩
theorem one_l (w : World) (l : List Nat) (e : Ending) (w' : World) (h : NewBlock w l e w') : ∃ g cap, e = .returned (.slice (some ⟨g, 0, none⟩) 256 cap) ∧ Nums .u8 w' (some ⟨g, 0, none⟩) 256 cap l ∧ Below w.heap.size w w' :=
  let ⟨g, cap, h1, h2, _, h3⟩ := h; ⟨g, cap, h1, h2, h3⟩
end Go.Proofs.YtagbnacffiagcaaDoor.PairG
