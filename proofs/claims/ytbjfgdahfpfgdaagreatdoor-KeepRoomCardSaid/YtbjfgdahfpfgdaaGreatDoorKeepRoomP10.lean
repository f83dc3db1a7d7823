/- A store in memory (package page): what it asks of the world; what leaves it; The walk of page's count: how many tables there are; The walks of a store's small methods; How all is to lie, in memory. -/
import Derived.Test.YtbjfgdahfpfgdaaGreatDoorKeepRoomP9
import Derived.Test.YtbjfgdahfpfgdaaGreatDoorKeepRoomP4
import Derived.Test.YtbjfgdahfpfgdaaGreatDoorKeepRoomP3
import Derived.Lib.SliceRun
import Derived.Lib.SlBuf
import Derived.Deep.AppendLies
namespace Go.Proofs.YtbjfgdahfpfgdaaGreatDoor.PgW
open Go Go.RowKit Go.Maps Go.Proofs.YtbjfgdahfpfgdaaGreatDoor.Mem Go.Proofs.YtbjfgdahfpfgdaaGreatDoor.MapsW Go.Proofs.YtbjfgdahfpfgdaaGreatDoor.SeeW Go.Proofs.YtbjfgdahfpfgdaaGreatDoor.DevG Go.Proofs.YtbjfgdahfpfgdaaGreatDoor.PairG Go.Proofs.YtbjfgdahfpfgdaaGreatDoor.RefsW Go.Proofs.YtbjfgdahfpfgdaaGreatDoor.PgP
set_option linter.unusedVariables false
set_option maxRecDepth 100000

/-- pairs on a device that may be armed, or down -/
structure PR (w : World) (lo d n : Nat) (m : Mp) (D : Dv) (p h c : Nat) : Prop where
  dev : At w lo d n m D
  cells : w.heap[p]? = some (.cells (pcells d D.blocks h c) 160)
  half : 2 * h ≤ D.blocks
  most : D.blocks ≤ 6000
  lop : lo ≤ p
theorem PR.pat {w : World} {lo d n : Nat} {m : Mp} {D : Dv} {p h c : Nat} (k : PR w lo d n m D p h c) (hu : D.down = false) (hz : D.fuse = 0) : PAt w lo d n m D p h c := ⟨k.dev, k.cells, k.half, k.most, k.lop, hu, hz⟩
theorem PR.of {w : World} {lo d n : Nat} {m : Mp} {D : Dv} {p h c : Nat} (k : PAt w lo d n m D p h c) : PR w lo d n m D p h c := ⟨k.dev, k.cells, k.half, k.most, k.lop⟩
theorem PR.ne {w : World} {lo d n : Nat} {m : Mp} {D : Dv} {p h c : Nat} (k : PR w lo d n m D p h c) : p ≠ d := by
  rintro rfl
  have h1 := k.cells
  rw [k.dev.cells] at h1
  have h2 := (Obj.cells.inj (Option.some.inj h1)).1
  have h3 := congrArg (·[0]?) h2
  simp at h3
theorem PR.c {w : World} {lo d n : Nat} {m : Mp} {D : Dv} {p h c : Nat} (k : PR w lo d n m D p h c) :
    w.cell? ⟨p, 0, none⟩ = some (ptr d) ∧ w.cell? ⟨p, 1, none⟩ = some (.int .i64 D.blocks) ∧ w.cell? ⟨p, 2, none⟩ = some (.int .i64 h) ∧ w.cell? ⟨p, 3, none⟩ = some (.int .i64 c) ∧ w.frozen? ⟨p, 3, none⟩ = false := by
  have := k.cells
  simp [World.cell?, World.frozen?, this]
/-- what the device does leaves the pairs -/
theorem PR.turn {w w' : World} {lo d n n' : Nat} {m m' : Mp} {D D' : Dv} {p h c : Nat} (k : PR w lo d n m D p h c) (hd : At w' lo d n' m' D') (ht : Turn (own d m) w w') (hb : D'.blocks = D.blocks) : PR w' lo d n' m' D' p h c := by
  refine ⟨hd, ?_, by rw [hb]; exact k.half, by rw [hb]; exact k.most, k.lop⟩
  rw [hb]
  exact ht.cells k.cells (k.dev.out k.cells k.ne)
theorem PR.below {w w' : World} {lo d n : Nat} {m : Mp} {D : Dv} {p h c : Nat} (k : PR w lo d n m D p h c) (hb : Below w.heap.size w w') : PR w' lo d n m D p h c :=
  k.turn (k.dev.below hb) (Turn.of_below hb) rfl
theorem PR.mono {w : World} {lo lo' d n n' : Nat} {m : Mp} {D : Dv} {p h c : Nat} (k : PR w lo d n m D p h c) (hn : n ≤ n') (hl : lo' ≤ lo) : PR w lo' d n' m D p h c :=
  ⟨k.dev.mono hn hl, k.cells, k.half, k.most, Nat.le_trans hl k.lop⟩
theorem PR.plt {w : World} {lo d n : Nat} {m : Mp} {D : Dv} {p h c : Nat} (k : PR w lo d n m D p h c) : p < w.heap.size := (Array.getElem?_eq_some_iff.1 k.cells).1
theorem PR.nou8 {w : World} {lo d n : Nat} {m : Mp} {D : Dv} {p h c : Nat} (k : PR w lo d n m D p h c) : ∀ x ∈ p :: own d m, ∀ off z, w.cell? ⟨x, off, none⟩ ≠ some (.int .u8 z) := by
  intro x hx off z
  rcases List.mem_cons.1 hx with rfl | hx
  · refine nou8_cells k.cells ?_ off z
    intro v hv z e
    subst e
    simp at hv
  · exact At.nou8 k.dev x hx off z
/-- what writes elsewhere, into maps or into blocks whose first cell is no byte, leaves the pairs -/
theorem PR.away {S : List Nat} {w w' : World} {lo d n : Nat} {m : Mp} {D : Dv} {p h c : Nat} (k : PR w lo d n m D p h c) (ht : Turn S w w') (hS : ∀ x ∈ S, x ∉ p :: own d m)
    (hb : ∀ x ∈ S, NoCells w x ∨ ∃ v, w.cell? ⟨x, 0, none⟩ = some v ∧ ∀ z, v ≠ .int .u8 z) : PR w' lo d n m D p h c := by
  refine ⟨k.dev.turn ht (fun hm => hS d hm (by simp)) (fun x hx hm => hS x hm (by simp [own, hx])) hb, ht.cells k.cells (fun hm => hS p hm (by simp)), k.half, k.most, k.lop⟩

/-- a store's cells -/
abbrev scells (d p : Nat) (ep : Nat) (ra : Option Addr) (rn rc : Nat) (tb tc a o : Nat) (z : Int) : Array Value :=
  #[ptr d, ptr p, .int .i64 ep, .slice ra rn rc, .slice (some ⟨tb, 0, none⟩) 7 tc, .map (some a), .map (some o), .int .i64 z]
/-- where a store lies -/
structure Si where
  d : Nat
  p : Nat
  H : Nat
  c : Nat
  s : Nat
  a : Nat
  o : Nat
  ra : Option Addr
  rc : Nat
  tb : Nat
  tc : Nat
  z : Int
/-- a store in memory -/
structure SAt (w : World) (lo n : Nat) (m : Mp) (D : Dv) (I : Si) (S : St) : Prop where
  pr : PR w lo I.d n m D I.p I.H I.c
  cells : w.heap[I.s]? = some (.cells (scells I.d I.p S.ep I.ra S.rs.length I.rc I.tb I.tc I.a I.o I.z) 93)
  refs : Refs w I.ra S.rs.length I.rc S.rs
  tabs : Refs w (some ⟨I.tb, 0, none⟩) 7 I.tc S.tabs
  at_ : ∃ k, RefMap w I.a n S.at_ k
  now : ∃ k, NowMap w lo I.o n S.now k
  ao : I.a ≠ I.o
  sx : I.s ∉ own I.d m
  ax : I.a ∉ own I.d m
  ox : I.o ∉ own I.d m
  rx : ∀ b off, I.ra = some ⟨b, off, none⟩ → b < w.heap.size ∧ b ∉ I.s :: I.p :: I.a :: I.o :: own I.d m
  tx : I.tb ∉ I.s :: I.p :: I.a :: I.o :: own I.d m
  slo : lo ≤ I.s ∧ lo ≤ I.a ∧ lo ≤ I.o
/-- what is a store's alone -/
abbrev Si.own (I : Si) (m : Mp) : List Nat := I.s :: I.p :: I.a :: I.o :: DevG.own I.d m
theorem SAt.c {w : World} {lo n : Nat} {m : Mp} {D : Dv} {I : Si} {S : St} (k : SAt w lo n m D I S) :
    w.cell? ⟨I.s, 0, none⟩ = some (ptr I.d) ∧ w.cell? ⟨I.s, 1, none⟩ = some (ptr I.p) ∧ w.cell? ⟨I.s, 2, none⟩ = some (.int .i64 S.ep) ∧ w.cell? ⟨I.s, 3, none⟩ = some (.slice I.ra S.rs.length I.rc) ∧ w.cell? ⟨I.s, 4, none⟩ = some (.slice (some ⟨I.tb, 0, none⟩) 7 I.tc) ∧
    w.cell? ⟨I.s, 5, none⟩ = some (.map (some I.a)) ∧ w.cell? ⟨I.s, 6, none⟩ = some (.map (some I.o)) ∧ w.cell? ⟨I.s, 7, none⟩ = some (.int .i64 I.z) ∧
    (∀ j, w.frozen? ⟨I.s, j, none⟩ = false) := by
  have := k.cells
  simp [World.cell?, World.frozen?, this]
theorem SAt.slt {w : World} {lo n : Nat} {m : Mp} {D : Dv} {I : Si} {S : St} (k : SAt w lo n m D I S) : I.s < w.heap.size := (Array.getElem?_eq_some_iff.1 k.cells).1
theorem SAt.amap {w : World} {lo n : Nat} {m : Mp} {D : Dv} {I : Si} {S : St} (k : SAt w lo n m D I S) : ∃ es ck, w.heap[I.a]? = some (.map es ck) := let ⟨_, h⟩ := k.at_; h.block
theorem SAt.omap {w : World} {lo n : Nat} {m : Mp} {D : Dv} {I : Si} {S : St} (k : SAt w lo n m D I S) : ∃ es ck, w.heap[I.o]? = some (.map es ck) := let ⟨_, h⟩ := k.now; h.block
theorem SAt.ne {w : World} {lo n : Nat} {m : Mp} {D : Dv} {I : Si} {S : St} (k : SAt w lo n m D I S) : I.s ≠ I.p ∧ I.s ≠ I.a ∧ I.s ≠ I.o ∧ I.p ≠ I.a ∧ I.p ≠ I.o := by
  obtain ⟨e1, c1, ha⟩ := k.amap
  obtain ⟨e2, c2, ho⟩ := k.omap
  have hs := k.cells
  have hp := k.pr.cells
  refine ⟨fun e => ?_, fun e => ?_, fun e => ?_, fun e => ?_, fun e => ?_⟩
  · rw [e, hp] at hs
    have h3 := congrArg (·[1]?) (Obj.cells.inj (Option.some.inj hs)).1
    simp at h3
  · rw [e, ha] at hs; cases hs
  · rw [e, ho] at hs; cases hs
  · rw [e, ha] at hp; cases hp
  · rw [e, ho] at hp; cases hp
theorem SAt.nou8 {w : World} {lo n : Nat} {m : Mp} {D : Dv} {I : Si} {S : St} (k : SAt w lo n m D I S) : ∀ x ∈ I.own m, ∀ off z, w.cell? ⟨x, off, none⟩ ≠ some (.int .u8 z) := by
  intro x hx off z
  obtain ⟨e1, c1, ha⟩ := k.amap
  obtain ⟨e2, c2, ho⟩ := k.omap
  rcases List.mem_cons.1 hx with rfl | hx
  · refine nou8_cells k.cells ?_ off z
    intro v hv z e
    subst e
    simp at hv
  · rcases List.mem_cons.1 hx with rfl | hx
    · exact k.pr.nou8 _ (by simp) off z
    · rcases List.mem_cons.1 hx with rfl | hx
      · intro e; simp [World.cell?, ha] at e
      · rcases List.mem_cons.1 hx with rfl | hx
        · intro e; simp [World.cell?, ho] at e
        · exact k.pr.nou8 _ (by simp [hx]) off z
theorem SAt.own_lo {w : World} {lo n : Nat} {m : Mp} {D : Dv} {I : Si} {S : St} (k : SAt w lo n m D I S) : ∀ x ∈ I.own m, lo ≤ x := by
  intro x hx
  rcases List.mem_cons.1 hx with rfl | hx
  · exact k.slo.1
  · rcases List.mem_cons.1 hx with rfl | hx
    · exact k.pr.lop
    · rcases List.mem_cons.1 hx with rfl | hx
      · exact k.slo.2.1
      · rcases List.mem_cons.1 hx with rfl | hx
        · exact k.slo.2.2
        · exact k.pr.dev.own_lo x hx
theorem SAt.own_lt {w : World} {lo n : Nat} {m : Mp} {D : Dv} {I : Si} {S : St} (k : SAt w lo n m D I S) : ∀ x ∈ I.own m, x < w.heap.size := by
  intro x hx
  obtain ⟨e1, c1, ha⟩ := k.amap
  obtain ⟨e2, c2, ho⟩ := k.omap
  rcases List.mem_cons.1 hx with rfl | hx
  · exact k.slt
  · rcases List.mem_cons.1 hx with rfl | hx
    · exact k.pr.plt
    · rcases List.mem_cons.1 hx with rfl | hx
      · exact (Array.getElem?_eq_some_iff.1 ha).1
      · rcases List.mem_cons.1 hx with rfl | hx
        · exact (Array.getElem?_eq_some_iff.1 ho).1
        · rcases List.mem_cons.1 hx with rfl | hx
          · exact k.pr.dev.dlt
          · obtain ⟨es, ck, hb⟩ := k.pr.dev.maps x hx
            exact (Array.getElem?_eq_some_iff.1 hb).1
theorem now_turn {S : List Nat} {w w' : World} {base b n k : Nat} {F : Int → Option (List Nat)} (h : NowMap w base b n F k) (ht : Turn S w w') (hb : b ∉ S) (hS : ∀ x ∈ S, ∀ off z, w.cell? ⟨x, off, none⟩ ≠ some (.int .u8 z)) : NowMap w' base b n F k := by
  obtain ⟨es, ck, hk⟩ := h.block
  refine h.keep (ht.block b (Array.getElem?_eq_some_iff.1 hk).1 hb) fun g _ hc hz => ?_
  obtain ⟨c, t, f, hc⟩ := hc
  obtain ⟨z, hz⟩ := hz
  exact ht.block g (Array.getElem?_eq_some_iff.1 hc).1 fun hm => hS g hm 0 z hz
theorem ref_turn {S : List Nat} {w w' : World} {b n k : Nat} {F : Int → Option (Int × Nat)} (h : RefMap w b n F k) (ht : Turn S w w') (hb : b ∉ S) : RefMap w' b n F k := by
  obtain ⟨es, ck, hk⟩ := h.block
  exact h.still (ht.block b (Array.getElem?_eq_some_iff.1 hk).1 hb)
theorem refs_turn {S : List Nat} {w w' : World} {a : Option Addr} {n cap : Nat} {rs : List (Int × Nat)} (h : Refs w a n cap rs) (ht : Turn S w w') (hS : ∀ b o, a = some ⟨b, o, none⟩ → b ∉ S) : Refs w' a n cap rs :=
  Row.keep h fun b o e hlt => ht.block b hlt (hS b o e)
/-- what the pairs and the device do leaves the store -/
theorem SAt.turn {w w' : World} {lo n n' : Nat} {m m' : Mp} {D D' : Dv} {I : Si} {S : St} {c' : Nat} (k : SAt w lo n m D I S) (hp : PR w' lo I.d n' m' D' I.p I.H c') (ht : Turn (I.p :: own I.d m) w w') (hn : n ≤ n') (hm : ∀ x ∈ own I.d m', x ∈ own I.d m ∨ w.heap.size ≤ x) :
    SAt w' lo n' m' D' { I with c := c' } S := by
  obtain ⟨n1, n2, n3, n4, n5⟩ := k.ne
  have hlt := k.own_lt
  obtain ⟨k1, h1⟩ := k.at_
  obtain ⟨k2, h2⟩ := k.now
  have hsx : I.s ∉ I.p :: own I.d m := by simp only [List.mem_cons, not_or]; exact ⟨n1, by simpa using k.sx⟩
  have hax : I.a ∉ I.p :: own I.d m := by simp only [List.mem_cons, not_or]; exact ⟨fun e => n4 e.symm, by simpa using k.ax⟩
  have hox : I.o ∉ I.p :: own I.d m := by simp only [List.mem_cons, not_or]; exact ⟨fun e => n5 e.symm, by simpa using k.ox⟩
  have hsub : ∀ x ∈ I.p :: own I.d m, x ∈ I.own m := fun x hx => by
    rcases List.mem_cons.1 hx with rfl | hx
    · simp
    · simp only [List.mem_cons]; exact .inr (.inr (.inr (.inr (List.mem_cons.1 hx))))
  have hnew : ∀ x, x < w.heap.size → x ∉ own I.d m → x ∉ own I.d m' := fun x h3 h4 h5 => (hm x h5).elim h4 (by omega)
  have hlist : ∀ b, b < w.heap.size → b ∉ I.own m → b ∉ I.own m' := by
    intro b hb h3 h4
    simp only [List.mem_cons, not_or] at h3 h4
    obtain ⟨q1, q2, q3, q4, q5⟩ := h3
    rcases h4 with h4 | h4 | h4 | h4 | h4
    · exact q1 h4
    · exact q2 h4
    · exact q3 h4
    · exact q4 h4
    · exact hnew b hb (by simpa using q5) (by simpa using h4)
  refine ⟨hp, ht.cells k.cells hsx, refs_turn k.refs ht fun b o e hm' => (k.rx b o e).2 (hsub b hm'), refs_turn k.tabs ht fun b o e hm' => ?_, ⟨k1, (ref_turn h1 ht hax).mono hn⟩, ⟨k2, (now_turn h2 ht hox fun x hx => k.nou8 x (hsub x hx)).mono hn (Nat.le_refl _)⟩, k.ao, hnew _ k.slt k.sx, hnew _ (hlt _ (by simp)) k.ax, hnew _ (hlt _ (by simp)) k.ox, ?_, ?_, k.slo⟩
  · cases e
    exact k.tx (hsub _ hm')
  · intro b off e
    obtain ⟨h3, h4⟩ := k.rx b off e
    exact ⟨Nat.lt_of_lt_of_le h3 ht.size, hlist b h3 h4⟩
  · refine hlist _ ?_ k.tx
    obtain ⟨b', o', e, hc, _⟩ := k.tabs.at (j := 0) (by rw [k.tabs.len]; decide)
    cases e
    exact World.block_lt_of_cell? _ _ hc
theorem SAt.below {w w' : World} {lo n : Nat} {m : Mp} {D : Dv} {I : Si} {S : St} (k : SAt w lo n m D I S) (hb : Below w.heap.size w w') : SAt w' lo n m D I S :=
  k.turn (k.pr.below hb) (Turn.of_below hb) (Nat.le_refl _) fun x hx => .inl hx
theorem SAt.mono {w : World} {lo n n' : Nat} {m : Mp} {D : Dv} {I : Si} {S : St} (k : SAt w lo n m D I S) (hn : n ≤ n') : SAt w lo n' m D I S :=
  k.turn (k.pr.mono hn (Nat.le_refl _)) (Turn.refl _ _) hn fun x hx => .inl hx
/-- what is written into the changes leaves all else -/
theorem SAt.putO {w w' : World} {lo n k' : Nat} {m : Mp} {D : Dv} {I : Si} {S : St} {N : Int → Option (List Nat)} (k : SAt w lo n m D I S) (hr : NowMap w' lo I.o (n + 1) N k') (hg : w.grownBy w' (some I.o)) : SAt w' lo (n + 1) m D I { S with now := N } := by
  obtain ⟨n1, n2, n3, n4, n5⟩ := k.ne
  obtain ⟨k1, h1⟩ := k.at_
  have ht : Turn [I.o] w w' := Turn.of_grown hg (by simp)
  have hno : NoCells w I.o := nocells k.omap
  have htx := k.tx
  refine ⟨(k.pr.away ht (fun x hx => ?_) (fun x hx => .inl (by rw [List.mem_singleton.1 hx]; exact hno))).mono (by omega) (Nat.le_refl _), ht.cells k.cells (by simpa using n3), refs_turn k.refs ht fun b o e hm => ?_, refs_turn k.tabs ht fun b o e hm => ?_, ⟨k1, (ref_turn h1 ht (by simpa using k.ao)).mono (by omega)⟩, ⟨k', hr⟩, k.ao, k.sx, k.ax, k.ox, fun b off e => ⟨Nat.lt_of_lt_of_le (k.rx b off e).1 ht.size, (k.rx b off e).2⟩, k.tx, k.slo⟩
  · rw [List.mem_singleton.1 hx]
    intro hm
    rcases List.mem_cons.1 hm with e | hm
    · exact n5 e.symm
    · exact k.ox hm
  · have h2 := (k.rx b o e).2
    rw [List.mem_singleton.1 hm] at h2
    simp at h2
  · cases e
    rw [List.mem_singleton.1 hm] at htx
    simp at htx
end Go.Proofs.YtbjfgdahfpfgdaaGreatDoor.PgW

namespace Go.Proofs.YtbjfgdahfpfgdaaGreatDoor.PgW
open Go Go.RowKit Go.Maps Go.Proofs.YtbjfgdahfpfgdaaGreatDoor.Mem Go.Proofs.YtbjfgdahfpfgdaaGreatDoor.MapsW Go.Proofs.YtbjfgdahfpfgdaaGreatDoor.PgP Go.Proofs.YtbjfgdahfpfgdaaGreatDoor.RefsW
set_option linter.unusedVariables false
set_option maxRecDepth 100000

theorem refCells_set : ∀ (L : List (Int × Nat)) (i : Nat) (r : Int × Nat), refCells (L.set i r) = ((refCells L).set (i * 2) (.int .i64 r.1)).set (i * 2 + 1) (.int .u32 (r.2 : Int))
  | [], i, r => by simp [refCells]
  | x :: L, 0, r => rfl
  | x :: L, i + 1, r => by
    have ih := refCells_set L i r
    show Value.int .i64 x.1 :: Value.int .u32 (x.2 : Int) :: refCells (L.set i r) = _
    rw [ih, show (i + 1) * 2 = i * 2 + 1 + 1 by omega]
    rfl
/-- a place stored into a row of one's own -/
theorem own_ref {w : World} {base g n c : Nat} {L : List (Int × Nat)} (h : OwnRefs w base (.slice (some ⟨g, 0, none⟩) n c) n L) (i : Nat) (r : Int × Nat) :
    OwnRefs ((w.setCell ⟨g, i * 2, none⟩ (.int .i64 r.1)).setCell ⟨g, i * 2 + 1, none⟩ (.int .u32 (r.2 : Int))) base (.slice (some ⟨g, 0, none⟩) n c) n (L.set i r) := by
  have h1 := (World.ownsRow.stored h (i * 2) (.int .i64 r.1)).1
  have h2 := (World.ownsRow.stored h1 (i * 2 + 1) (.int .u32 (r.2 : Int))).1
  show World.ownsRow _ _ _ _ _ _ (refCells (L.set i r))
  rw [refCells_set]
  exact h2
theorem zero_w (r : Int × Nat) (w : World) : Calls Tryz.prog 122 #[refV r] w fun e w' => e = .returned (.bool (decide (r.1 = 0))) ∧ Below w.heap.size w w' := by
  have b1 := (Below.refl w.heap.size w).alloc (Nat.le_refl _) (.cells #[.int .i64 r.1, .int .u32 (r.2 : Int)] 111)
  by_cases h : r.1 = 0
  · have h1 : (r.1 == 0) = true := by simpa using h
    rw [decide_eq_true h]
    clear h
    go_enter Tryz.func122, Tryz.ntmps122
    go_wp2
    go_ret
    exact ⟨rfl, b1⟩
  · have h1 : (r.1 == 0) = false := by simpa using h
    rw [decide_eq_false h]
    clear h
    go_enter Tryz.func122, Tryz.ntmps122
    go_wp2
    go_ret
    exact ⟨rfl, b1⟩
abbrev zv : Value := .func (.func 122) #[] #[]
set_option maxHeartbeats 800000 in
theorem zindex_w (a : Option Addr) (n cap : Nat) (rs : List (Int × Nat)) (w : World) (hl : Refs w a n cap rs) :
    Calls Tryz.prog 150 #[.slice a n cap, zv] w fun e w' => (∃ r : Int, e = .returned (.int .i64 r) ∧ ((r = -1 ∧ ∀ x ∈ rs, x.1 ≠ 0) ∨ ∃ k : Nat, ∃ hk : k < rs.length, r = (k : Int) ∧ rs[k].1 = 0 ∧ ∀ x ∈ rs.take k, x.1 ≠ 0)) ∧ Below w.heap.size w w' := by
  have HL := hid hl.len
  obtain ⟨c1, c2⟩ := hl.bound
  go_enter Tryz.func150, Tryz.ntmps150
  go_wp2_with fail
  go_loopw [8] (fun i wr => ∃ k : Nat, k ≤ n ∧ i = .int .i64 k ∧ (∀ x ∈ rs.take k, x.1 ≠ 0) ∧ Below w.heap.size w wr) (fun i _ => n - (RowKit.intOf i).toNat)
  case atStart => exact ⟨0, by omega, rfl, by simp, Below.refl _ _⟩
  case round =>
    obtain ⟨k, hk, rfl, hT, hbel⟩ := hrel
    have HT := hid hT
    clear hT
    replace hl := hl.below hbel
    have hsz := hbel.size
    have HB := hid hbel
    clear hbel
    by_cases hlt : k < n
    · have hkl : k < rs.length := by rw [HL.out]; exact hlt
      obtain ⟨b0, o0, rfl, hc0, hc1⟩ := hl.at hkl
      have HKL := hid (List.take_succ_eq_append_getElem hkl)
      obtain ⟨y, hy⟩ : ∃ y, y = rs[k] := ⟨_, rfl⟩
      have HY := hid hy
      rw [← hy] at hc0 hc1
      clear hy
      by_cases hz : y.1 = 0
      · have hzw := zero_w y
        rw [decide_eq_true hz] at hzw
        have HZ := hid hz
        clear hz
        go_wp2_with fail
        refine (hzw _).mono ?_
        rintro e w2 ⟨rfl, hb2⟩
        have HBB := hid (HB.out.trans (hb2.mono hsz))
        clear hb2 hc0 hc1 hl hzw
        go_wp2_with fail
        go_ret
        exact ⟨⟨(k : Int), rfl, .inr ⟨k, by rw [HL.out]; exact hlt, rfl, by rw [← HY.out]; exact HZ.out, HT.out⟩⟩, HBB.out⟩
      · have hzw := zero_w y
        rw [decide_eq_false hz] at hzw
        have HZ := hid hz
        clear hz
        go_wp2_with fail
        refine (hzw _).mono ?_
        rintro e w2 ⟨rfl, hb2⟩
        have HBB := hid (HB.out.trans (hb2.mono hsz))
        clear hb2 hc0 hc1 hl hzw
        go_wp2_with fail
        go_roundw
        case rel =>
          refine ⟨k + 1, by omega, by go_num, ?_, HBB.out⟩
          rw [HKL.out]
          intro x hx
          rcases List.mem_append.1 hx with hx | hx
          · exact HT.out x hx
          · rw [List.mem_singleton.1 hx, ← HY.out]; exact HZ.out
        case measure => simp [RowKit.intOf]; omega
    · obtain rfl : k = n := by omega
      have HR := hid (show ∀ x ∈ rs, x.1 ≠ 0 from fun x hx => HT.out x (by rw [List.take_of_length_le (by rw [HL.out]; exact Nat.le_refl _)]; exact hx))
      clear hl
      go_wp2_with fail
      go_ret
      exact ⟨⟨-1, rfl, .inl ⟨rfl, HR.out⟩⟩, HB.out⟩
/-- 'clear' of places -/
theorem clear_refs (w : World) (b o n c : Nat) (hn : 0 < n) (hc : ∀ j, j < n * 2 → (w.cell? ⟨b, o + j, none⟩).isSome = true) (hf : ∀ j, j < n * 2 → w.frozen? ⟨b, o + j, none⟩ = false) :
    ∃ vs, ∀ ty, (Builtin.clear_ #[87] ty #[.slice (some ⟨b, o, none⟩) n c]).run Tryz.prog w = .ok (.tuple #[]) (w.setCells b o vs) := by
  have hz := zeroRef
  obtain ⟨vs, hvs⟩ : ∃ vs, vs = (Builtin.zeroCells #[.int .i64 0, .int .u32 0] n).toList := ⟨_, rfl⟩
  have hlen : vs.length = n * 2 := by rw [hvs]; simp [Builtin.zeroCells]
  have hone : ∀ v ∈ vs, v.oneCell' = true := by
    intro v hv
    rw [hvs] at hv
    simp [Builtin.zeroCells] at hv
    obtain ⟨j, _, hv⟩ := hv
    have : j % 2 = 0 ∨ j % 2 = 1 := by omega
    rcases this with h | h <;> simp [h] at hv <;> subst hv <;> rfl
  have hst := run_storeCells_cells (P := Tryz.prog) b o vs 0 w (by rw [hlen]; simpa using hc) (by rw [hlen]; simpa using hf) hone
  simp only [Nat.add_zero] at hst
  obtain ⟨m, rfl⟩ : ∃ m, n = m + 1 := ⟨n - 1, by omega⟩
  refine ⟨vs, fun ty => ?_⟩
  rw [hvs] at hst ⊢
  simp [Builtin.clear_, run_underlying Tryz.underlying87, hz, Value.cells, hst]
theorem tcnt_succ (T : List Ref) (j : Nat) (h : j < T.length) : tcnt (T.take (j + 1)) = tcnt (T.take j) + (if T[j].1 = 0 then 0 else 1) := by
  unfold tcnt
  rw [List.take_succ_eq_append_getElem h, List.countP_append]
  by_cases h0 : T[j].1 = 0 <;> simp [h0]
theorem tcnt_all {T : List Ref} (h : ∀ x ∈ T, x.1 ≠ 0) : tcnt T = T.length := by
  unfold tcnt
  rw [List.countP_eq_length]
  intro x hx
  simpa using h x hx
theorem own_frozen {w : World} {base : Nat} {e : TypeId} {size g n c : Nat} {xs : List Value} (h : w.ownsRow base e size (.slice (some ⟨g, 0, none⟩) n c) n xs) (j : Nat) : w.frozen? ⟨g, j, none⟩ = false := by
  rcases h.2 with ⟨e0, _⟩ | ⟨g', c', cur, hv, hb, hc, q⟩
  · cases e0
  · cases hv
    simp [World.frozen?, hc]
theorem own_refs {w : World} {base g n c : Nat} {L : List (Int × Nat)} (h : OwnRefs w base (.slice (some ⟨g, 0, none⟩) n c) n L) : Refs w (some ⟨g, 0, none⟩) n c L := (Row.owned h).2
set_option maxHeartbeats 1600000 in
theorem delz_w (base g n c : Nat) (rs : List (Int × Nat)) (w : World) (h : OwnRefs w base (.slice (some ⟨g, 0, none⟩) n c) n rs) (hn : n ≤ 1000) (hb : base ≤ w.heap.size) :
    Calls Tryz.prog 121 #[.slice (some ⟨g, 0, none⟩) n c, zv] w fun e w' => (∃ a c', e = .returned (.slice a (tcnt rs) c')) ∧ Below base w w' := by
  have hr := own_refs h
  have hlen := hr.len
  have hbd := hr.bound
  have hgb : base ≤ g := (h.lt g rfl).1
  have HL := hid hlen
  go_enter Tryz.func121, Tryz.ntmps121
  go_wp2_with fail
  refine (zindex_w (some ⟨g, 0, none⟩) n c rs w hr).mono ?_
  rintro e w1 ⟨⟨r, rfl, hcase⟩, b1⟩
  rcases hcase with ⟨rfl, hall⟩ | ⟨k, hk, rfl, hz, hpre⟩
  · have HC := hid (tcnt_all hall)
    clear hr h
    go_wp2_with fail
    go_ret
    exact ⟨⟨some ⟨g, 0, none⟩, c, by rw [HC.out, HL.out]; rfl⟩, b1.mono hb⟩
  · have hk' : k < n := by omega
    have h1 : OwnRefs w1 base (.slice (some ⟨g, 0, none⟩) n c) n rs := ownsRow_below h b1
    have hT : tcnt (rs.take (k + 1)) = k := by
      rw [tcnt_succ rs k hk, if_pos hz, tcnt_all hpre, List.length_take]
      omega
    have B1 : Below base w w1 := b1.mono hb
    have HT := hid hT
    have hkn : (((k : Nat) : Int) == -1) = false := by rw [beq_eq_false_iff_ne]; omega
    have HS := hid (tcnt_succ rs)
    clear hT hr h hz hpre b1
    go_wp2_with fail
    go_loopw [5, 6] (fun iv jv wr => ∃ (i j : Nat), iv = .int .i64 i ∧ jv = .int .i64 j ∧ i < j ∧ j ≤ n ∧ tcnt (rs.take j) = i ∧ ∃ (L : List (Int × Nat)), OwnRefs wr base (.slice (some ⟨g, 0, none⟩) n c) n L ∧ L.length = n ∧ (∀ q, j ≤ q → L[q]? = rs[q]?) ∧ Below base w wr) (fun _ jv _ => n - (RowKit.intOf jv).toNat)
    case atStart => exact ⟨k, k + 1, rfl, by go_num, by omega, by omega, HT.out, rs, h1, hlen, fun q _ => rfl, B1⟩
    case round =>
      clear h1 B1
      obtain ⟨i, j, rfl, rfl, hij, hjn, hti, L, own, hLl, hq, hbel⟩ := hrel
      have HTI := hid hti
      have HQ := hid hq
      have HB := hid hbel
      have hsz := hbel.size
      clear hti hq hbel
      by_cases hlt : j < n
      · have hjr : j < rs.length := by omega
        have hjL : j < L.length := by omega
        have hiL : i < L.length := by omega
        obtain ⟨bx, ox, e, x0, x1⟩ := (own_refs own).at hjL
        cases e
        rw [Nat.zero_add] at x0 x1
        have hy : L[j] = rs[j] := by
          have := HQ.out j (Nat.le_refl _)
          rw [List.getElem?_eq_getElem hjL, List.getElem?_eq_getElem hjr] at this
          exact Option.some.inj this
        rw [hy] at x0 x1
        have hs := HS.out j hjr
        obtain ⟨y, hye⟩ : ∃ y, y = rs[j] := ⟨_, rfl⟩
        rw [← hye] at x0 x1 hs
        have HS1 := hid hs
        have bx := (Below.refl base wr).alloc (by omega) (.cells #[.int .i64 y.1, .int .u32 (y.2 : Int)] 111)
        have own2 : OwnRefs (wr.alloc (.cells #[.int .i64 y.1, .int .u32 (y.2 : Int)] 111)) base (.slice (some ⟨g, 0, none⟩) n c) n L := World.ownsRow.alloc own _
        have HX := hid bx
        have z1 : (wr.alloc (.cells #[.int .i64 y.1, .int .u32 (y.2 : Int)] 111)).heap.size = wr.heap.size + 1 := by simp
        obtain ⟨r0, r1⟩ := new2 wr (.int .i64 y.1) (.int .u32 (y.2 : Int)) 111
        have HZ1 := hid z1
        clear hs hye hy own z1 bx
        by_cases hz : y.1 = 0
        · have hzw := zero_w y
          rw [decide_eq_true hz] at hzw
          rw [if_pos hz] at HS1
          clear hz
          go_wp2_with fail
          refine (hzw _).mono ?_
          rintro e w2 ⟨rfl, hb2⟩
          have own3 : OwnRefs w2 base (.slice (some ⟨g, 0, none⟩) n c) n L := ownsRow_below own2 hb2
          have HBB := hid (HB.out.trans (HX.out.trans (hb2.mono (by simp; omega))))
          clear hb2 own2 x0 x1 r0 r1 hzw
          go_wp2_with fail
          go_roundw
          case rel => exact ⟨i, j + 1, rfl, by go_num, by omega, by omega, by rw [HS1.out, HTI.out]; rfl, L, own3, hLl, fun q hq => HQ.out q (by omega), HBB.out⟩
          case measure => simp [RowKit.intOf]; omega
        · have hzw := zero_w y
          rw [decide_eq_false hz] at hzw
          rw [if_neg hz] at HS1
          clear hz
          go_wp2_with fail
          refine (hzw _).mono ?_
          rintro e w2 ⟨rfl, hb2⟩
          have own3 : OwnRefs w2 base (.slice (some ⟨g, 0, none⟩) n c) n L := ownsRow_below own2 hb2
          have q0 := kept hb2 r0
          have q1 := kept hb2 r1
          obtain ⟨bi, oi, e, y0, y1⟩ := (own_refs own3).at hiL
          cases e
          rw [Nat.zero_add] at y0 y1
          have f0 := own_frozen own3 (i * 2)
          have f1 := own_frozen own3 (i * 2 + 1)
          have HO := hid (own_ref own3 i y)
          have HBB := hid (((HB.out.trans (HX.out.trans (hb2.mono (by simp; omega)))).setCell (p := ⟨g, i * 2, none⟩) hgb (.int .i64 y.1)).setCell (p := ⟨g, i * 2 + 1, none⟩) hgb (.int .u32 (y.2 : Int)))
          clear hb2 own2 x0 x1 r0 r1 own3 hzw
          go_wp2_with fail
          go_roundw
          case rel => exact ⟨i + 1, j + 1, by go_num, by go_num, by omega, by omega, by rw [HS1.out, HTI.out], L.set i y, HO.out, by rw [List.length_set]; exact hLl, fun q hq => by rw [List.getElem?_set_ne (by omega)]; exact HQ.out q (by omega), HBB.out⟩
          case measure => simp [RowKit.intOf]; omega
      · obtain rfl : j = n := by omega
        have hti : tcnt rs = i := by rw [← HTI.out, List.take_of_length_le (by omega)]
        have hcells : ∀ q, q < j * 2 → (wr.cell? ⟨g, q, none⟩).isSome = true := by
          intro q hq
          obtain ⟨u, hu⟩ : ∃ u, (refCells L)[q]? = some u := ⟨(refCells L)[q]'(by rw [refCells_length]; omega), List.getElem?_eq_getElem _⟩
          have := Row.cell (own_refs own) hu
          rw [Nat.zero_add] at this
          rw [this]
          rfl
        obtain ⟨vs, hrun⟩ := clear_refs wr g (i * 2) (j - i) (c - i) (by omega) (fun q hq => hcells _ (by omega)) (fun q hq => own_frozen own _)
        have HE := hid (Lib.below_setCells g hgb vs (i * 2) HB.out)
        have HTE := hid hti
        have hjc : j ≤ c := hbd.1
        have hc9 := hbd.2
        clear hti hcells own HB HTI
        go_wp2
        go_ret
        exact ⟨⟨some ⟨g, 0, none⟩, c, by rw [HTE.out]; rfl⟩, HE.out⟩
theorem count_w (b n c : Nat) (rs : List (Int × Nat)) (w : World) (h : Refs w (some ⟨b, 0, none⟩) n c rs) (hn : n ≤ 1000) :
    Calls Tryz.prog 89 #[.slice (some ⟨b, 0, none⟩) n c] w fun e w' => e = .returned (.int .i64 (tcnt rs : Nat)) ∧ Below w.heap.size w w' := by
  obtain ⟨t, ht⟩ : ∃ t, t = tcnt rs := ⟨_, rfl⟩
  rw [← ht]
  go_enter Tryz.func89, Tryz.ntmps89
  go_wp2_with fail
  refine (cloneRefs_w b 0 n c rs w h (by omega)).mono ?_
  rintro e w1 ⟨g, cap, rfl, own, b1⟩
  go_wp2_with fail
  refine (delz_w w.heap.size g n cap rs w1 own hn b1.size).mono ?_
  rintro e w2 ⟨⟨a, c', rfl⟩, b2⟩
  have hB := b1.trans b2
  rw [← ht]
  clear own b1 b2 h ht
  go_wp2
  go_ret
  exact ⟨rfl, hB⟩
end Go.Proofs.YtbjfgdahfpfgdaaGreatDoor.PgW

namespace Go.Proofs.YtbjfgdahfpfgdaaGreatDoor.PgW
open Go Go.RowKit Go.Maps Go.Proofs.YtbjfgdahfpfgdaaGreatDoor.Mem Go.Proofs.YtbjfgdahfpfgdaaGreatDoor.MapsW Go.Proofs.YtbjfgdahfpfgdaaGreatDoor.SeeW Go.Proofs.YtbjfgdahfpfgdaaGreatDoor.DevG Go.Proofs.YtbjfgdahfpfgdaaGreatDoor.PairG Go.Proofs.YtbjfgdahfpfgdaaGreatDoor.RefsW Go.Proofs.YtbjfgdahfpfgdaaGreatDoor.PgP Go.Proofs.YtbjfgdahfpfgdaaGreatDoor.ConcatW
set_option linter.unusedVariables false
set_option maxRecDepth 100000

abbrev isP (i : Int) : Bool := decide (0 ≤ i) && decide (i < 256)
theorem is_w (i : Int) (w : World) : Calls Tryz.prog 47 #[.int .i64 i] w fun e w' => e = .returned (.bool (isP i)) ∧ w' = w := by
  go_enter Tryz.func47, Tryz.ntmps47
  cases h1 : decide (0 ≤ i) <;> cases h2 : decide (i < 256) <;> (go_wp2; go_ret; exact ⟨by simp [isP, h1, h2], rfl⟩)
theorem there_w (lo n : Nat) (m : Mp) (D : Dv) (I : Si) (S : St) (i : Int) (w : World) (k : SAt w lo n m D I S) (hi : Fits i) :
    Calls Tryz.prog 59 #[ptr I.s, .int .i64 i] w fun e w' => e = .returned (.bool (S.there i)) ∧ w' = w := by
  obtain ⟨c0, c1, c2, c3, c4, c5, c6, c7, fz⟩ := k.c
  obtain ⟨ka, ha⟩ := k.at_
  obtain ⟨ko, ho⟩ := k.now
  have l4 := ha.look hi
  have hfl : ∀ (r : Int × Nat) w, (Instr.field 111 (refV r) 0).run Tryz.prog w = .ok (.int .i64 r.1) w := fun r w => by kernel_rfl
  unfold St.there
  cases hN : S.now i with
  | none =>
    have l5 := ho.ok_none hi hN
    have hd := fun w => hfl ((S.at_ i).getD (0, 0)) w
    generalize (S.at_ i).getD (0, 0) = r at *
    clear ha ho k hN
    go_enter Tryz.func59, Tryz.ntmps59
    go_wp2
    go_ret
    exact ⟨rfl, rfl⟩
  | some l =>
    cases l with
    | nil =>
      have l5 := ho.ok_nil hi hN
      clear ha ho k hN l4
      go_enter Tryz.func59, Tryz.ntmps59
      go_wp2
      go_ret
      exact ⟨rfl, rfl⟩
    | cons x l =>
      obtain ⟨g, cap, l5, _, _⟩ := ho.ok_some hi hN
      have hd : decide ((0 : Int) < ((l.length + 1 : Nat) : Int)) = true := decide_eq_true (by omega)
      have hd2 : decide (0 < (x :: l).length) = true := decide_eq_true (by simp)
      obtain ⟨q, hq⟩ : ∃ q, q = l.length + 1 := ⟨_, rfl⟩
      rw [← hq] at l5 hd
      have hd3 : decide (0 < q) = true := decide_eq_true (by omega)
      clear ha ho k hN l4 hq hd
      simp only [hd2]
      go_enter Tryz.func59, Tryz.ntmps59
      go_wp2
      go_ret
      exact ⟨rfl, rfl⟩
/-- the pages below k -/
def psOf (S : St) (k : Nat) : List Nat := (List.range k).filter fun (p : Nat) => S.there (p : Int)
theorem psOf_succ (S : St) (k : Nat) : psOf S (k + 1) = psOf S k ++ (if S.there (k : Int) then [k] else []) := by
  unfold psOf
  rw [List.range_succ, List.filter_append]
  cases h : S.there (k : Int) <;> simp [h]
theorem psOf_le (S : St) (k : Nat) : (psOf S k).length ≤ k := by
  unfold psOf
  have := List.length_filter_le (fun (p : Nat) => S.there (p : Int)) (List.range k)
  simpa using this
set_option maxHeartbeats 3200000 in
theorem pages_w (lo n : Nat) (m : Mp) (D : Dv) (I : Si) (S : St) (w : World) (k : SAt w lo n m D I S) :
    Calls Tryz.prog 45 #[ptr I.s] w fun e w' => (∃ a c, e = .returned (.slice a (psOf S 256).length c) ∧ Nums .i64 w' a (psOf S 256).length c (psOf S 256)) ∧ Below w.heap.size w w' := by
  have HK := hid k
  have HS := hid (psOf_succ S)
  have HL := hid (psOf_le S)
  have h0 : psOf S 0 = [] := rfl
  generalize hps : psOf S = ps at *
  clear k hps
  go_enter Tryz.func45, Tryz.ntmps45
  go_wp2
  go_loopw [3, 5] (fun v i wr => ∃ j : Nat, j ≤ 256 ∧ i = .int .i64 j ∧ wr.ownsRow w.heap.size 3 1 v (ps j).length (nums .i64 (ps j)) ∧ Below w.heap.size w wr) (fun _ i _ => 256 - (RowKit.intOf i).toNat)
  case atStart => exact ⟨0, by omega, rfl, by rw [h0]; exact World.ownsRow_nil _ _ _ _, Below.refl _ _⟩
  case round =>
    obtain ⟨j, hj, rfl, own, hb⟩ := hrel
    have HB := hid hb
    by_cases hlt : j < 256
    · have ht := there_w lo n m D I S j wr (HK.out.below hb) (by unfold Fits; omega)
      have hs := HS.out j
      have hle := HL.out j
      obtain ⟨va, vc, rfl, hvr⟩ := ownsRow_slice own
      cases hc : S.there (j : Int) with
      | false =>
        rw [hc] at hs ht
        have hs' : ps (j + 1) = ps j := by rw [hs]; simp
        clear hb hle hc hvr hs
        go_wp2_with (refine ht.mono ?_; rintro e w' ⟨rfl, rfl⟩)
        go_roundw
        case rel => exact ⟨j + 1, by omega, by go_num, by rw [hs']; exact own, HB.out⟩
        case measure => simp [RowKit.intOf]; omega
      | true =>
        rw [hc] at hs ht
        have hs' : ps (j + 1) = ps j ++ [j] := by rw [hs]; simp
        have HS' := hid hs'
        have hz := hb.size
        clear hc hvr hs hs' hb
        go_wp2_with fail
        refine ht.mono ?_
        rintro e w' ⟨rfl, rfl⟩
        go_wp2_with (at_builtin; go_must (refine wpList_push elInt rfl _ _ rfl w.heap.size _ _ _ rfl (own.alloc _) w'.heap.size (.int .i64 (j : Int)) rfl (by simp) rfl (by unfold maxLen; omega) (by omega) (by simp; omega) ?_); intro v3 w3 o3 hb3 hg3)
        go_roundw
        case rel => exact ⟨j + 1, by omega, by go_num, by rw [HS'.out, List.length_append]; simpa [nums] using o3, HB.out.trans (((Below.refl _ _).alloc hz _).trans hb3)⟩
        case measure => simp [RowKit.intOf]; omega
    · obtain rfl : j = 256 := by omega
      obtain ⟨va, vc, rfl, hvr⟩ := ownsRow_slice own
      go_wp2
      go_ret
      exact ⟨⟨va, vc, rfl, hvr⟩, HB.out⟩
/-- a store with another map of changes -/
theorem SAt.fresh {w : World} {lo n : Nat} {m : Mp} {D : Dv} {I : Si} {S : St} (k : SAt w lo n m D I S) {w1 : World} (h1 : Below w.heap.size w w1) {o' k' : Nat} (ho : NowMap w1 lo o' n (fun _ => none) k') (hlo : w.heap.size ≤ o') :
    SAt (w1.setCell ⟨I.s, 6, none⟩ (.map (some o'))) lo n m D { I with o := o' } { S with now := fun _ => none } ∧ Turn [I.s] w (w1.setCell ⟨I.s, 6, none⟩ (.map (some o'))) := by
  have k1 := k.below h1
  have hsz := h1.size
  obtain ⟨n1, n2, n3, n4, n5⟩ := k.ne
  obtain ⟨ka, ha⟩ := k1.at_
  have hlt := k.own_lt
  have hbl := ho.block
  have ht : Turn [I.s] w1 (w1.setCell ⟨I.s, 6, none⟩ (.map (some o'))) := Turn.setCell w1 I.s 6 _ (by simp)
  have htx := k1.tx
  have hc := k1.cells
  have hnu : ∀ x ∈ [I.s], ∀ off z, w1.cell? ⟨x, off, none⟩ ≠ some (.int .u8 z) := fun x hx => k1.nou8 x (by rw [List.mem_singleton.1 hx]; simp)
  refine ⟨⟨k1.pr.away ht (fun x hx => ?_) (fun x hx => .inr ?_), ?_, refs_turn k1.refs ht fun b o e hm => ?_, refs_turn k1.tabs ht fun b o e hm => ?_, ⟨ka, ref_turn ha ht (by simpa using fun e => n2 e.symm)⟩, ⟨k', now_turn ho ht (by have := k.slt; simp; omega) hnu⟩, ?_, k1.sx, k1.ax, ?_, fun b off e => ?_, ?_, ⟨k1.slo.1, k1.slo.2.1, ?_⟩⟩, (Turn.of_below h1).then ht⟩
  · rw [List.mem_singleton.1 hx]
    intro hm
    rcases List.mem_cons.1 hm with e | hm
    · exact n1 e
    · exact k.sx hm
  · rw [List.mem_singleton.1 hx]
    exact ⟨_, k1.c.1, fun z e => by cases e⟩
  · simp [World.setCell, Array.getElem?_modify, hc]
  · have h2 := (k1.rx b o e).2
    rw [List.mem_singleton.1 hm] at h2
    simp at h2
  · cases e
    rw [List.mem_singleton.1 hm] at htx
    simp at htx
  · have := hlt I.a (by simp)
    show I.a ≠ o'
    omega
  · intro hm
    have := hlt o' (by simp only [List.mem_cons]; exact .inr (.inr (.inr (.inr (List.mem_cons.1 hm)))))
    omega
  · obtain ⟨h3, h4⟩ := k.rx b off e
    refine ⟨by have := ht.size; omega, ?_⟩
    simp only [List.mem_cons, not_or] at h4 ⊢
    obtain ⟨q1, q2, q3, q4, q5⟩ := h4
    exact ⟨q1, q2, q3, by omega, q5⟩
  · have h3 : I.tb < w.heap.size := by
      obtain ⟨b', o', e, hc, _⟩ := k.tabs.at (j := 0) (by rw [k.tabs.len]; decide)
      cases e
      exact World.block_lt_of_cell? _ _ hc
    have h4 := k.tx
    simp only [List.mem_cons, not_or] at h4 ⊢
    obtain ⟨q1, q2, q3, q4, q5⟩ := h4
    exact ⟨q1, q2, q3, by omega, q5⟩
  · have := k.own_lo I.s (by simp)
    have := k.slt
    show lo ≤ o'
    omega
end Go.Proofs.YtbjfgdahfpfgdaaGreatDoor.PgW

namespace Go.Proofs.YtbjfgdahfpfgdaaGreatDoor.PgW
open Go Go.RowKit Go.Maps Go.Proofs.YtbjfgdahfpfgdaaGreatDoor.Mem Go.Proofs.YtbjfgdahfpfgdaaGreatDoor.MapsW Go.Proofs.YtbjfgdahfpfgdaaGreatDoor.DevG Go.Proofs.YtbjfgdahfpfgdaaGreatDoor.PgP Go.Proofs.YtbjfgdahfpfgdaaGreatDoor.RefsW
set_option linter.unusedVariables false
set_option maxRecDepth 100000

abbrev lcells (tb tc a : Nat) (vn vp vf : Value) : Array Value := #[.slice (some ⟨tb, 0, none⟩) 7 tc, .map (some a), vn, vp, vf]
/-- a slice's block -/
def blk (v : Value) : List Nat := v.ownBlock.toList
theorem blk_slice (g o n c : Nat) : blk (.slice (some ⟨g, o, none⟩) n c) = [g] := rfl
theorem blk_nil (n c : Nat) : blk (.slice none n c) = [] := rfl
/-- a layout in memory -/
structure LAt (w : World) (base n X tb tc a : Nat) (vn vp vf : Value) (x : Lay) : Prop where
  cells : w.heap[X]? = some (.cells (lcells tb tc a vn vp vf) 100)
  tabs : OwnRefs w base (.slice (some ⟨tb, 0, none⟩) 7 tc) 7 x.tabs
  at_ : ∃ k, RefMap w a n x.at_ k
  nt : w.ownsRow base 3 1 vn x.nt.length (nums .i64 x.nt)
  pg : w.ownsRow base 3 1 vp x.pg.length (nums .i64 x.pg)
  free : ∃ fa fc, vf = .slice fa x.free.length fc ∧ Nums .i64 w fa x.free.length fc x.free
  b0 : base ≤ X ∧ base ≤ a
  nd : (X :: a :: tb :: (blk vn ++ (blk vp ++ blk vf))).Nodup
  lt : ∀ b ∈ X :: a :: tb :: (blk vn ++ (blk vp ++ blk vf)), b < w.heap.size
theorem LAt.c {w : World} {base n X tb tc a : Nat} {vn vp vf : Value} {x : Lay} (h : LAt w base n X tb tc a vn vp vf x) :
    w.cell? ⟨X, 0, none⟩ = some (.slice (some ⟨tb, 0, none⟩) 7 tc) ∧ w.cell? ⟨X, 1, none⟩ = some (.map (some a)) ∧ w.cell? ⟨X, 2, none⟩ = some vn ∧ w.cell? ⟨X, 3, none⟩ = some vp ∧ w.cell? ⟨X, 4, none⟩ = some vf ∧ ∀ j, w.frozen? ⟨X, j, none⟩ = false := by
  have := h.cells
  simp [World.cell?, World.frozen?, this]
theorem row_grown {w w' : World} {base r : Nat} {e : TypeId} {size : Nat} {v : Value} {n : Nat} {xs : List Value} (h : w.ownsRow base e size v n xs) (hg : w.grownBy w' (some r)) (hr : r ∉ blk v) : w'.ownsRow base e size v n xs := by
  refine h.kept hg (.inr fun e => hr ?_)
  unfold blk
  rw [e]
  simp
theorem nums_grown {w w' : World} {r : Nat} {fa : Option Addr} {n c : Nat} {l : List Nat} (h : Nums .i64 w fa n c l) (hg : w.grownBy w' (some r)) (hr : r ∉ blk (.slice fa n c)) : Nums .i64 w' fa n c l :=
  Row.keep h fun b o e hlt => hg.block b hlt fun e2 => hr (by rw [e, blk_slice, ← Option.some.inj e2]; simp)
theorem grown_set (w : World) (b j : Nat) (v : Value) : w.grownBy (w.setCell ⟨b, j, none⟩ v) (some b) :=
  ⟨rfl, rfl, rfl, by simp, fun k hk hn => heap_setCell_other w ⟨b, j, none⟩ k v fun e => hn (by rw [e])⟩
theorem ref_grown {w w' : World} {b n k r : Nat} {F : Int → Option (Int × Nat)} (h : RefMap w b n F k) (hg : w.grownBy w' (some r)) (hr : b ≠ r) : RefMap w' b n F k := by
  obtain ⟨es, ck, hk⟩ := h.block
  exact h.still (hg.block b (Array.getElem?_eq_some_iff.1 hk).1 fun e => hr (Option.some.inj e))
/-- what writes elsewhere leaves it -/
theorem LAt.grown {w w' : World} {base n X tb tc a r : Nat} {vn vp vf : Value} {x : Lay} (h : LAt w base n X tb tc a vn vp vf x) (hg : w.grownBy w' (some r)) (hr : r ∉ X :: a :: tb :: (blk vn ++ (blk vp ++ blk vf))) : LAt w' base n X tb tc a vn vp vf x := by
  simp only [List.mem_cons, List.mem_append, not_or] at hr
  obtain ⟨r1, r2, r3, r4, r5, r6⟩ := hr
  obtain ⟨k, hk⟩ := h.at_
  obtain ⟨fa, fc, hv, hf⟩ := h.free
  refine ⟨(hg.block X (h.lt X (by simp)) (fun e => r1 (Option.some.inj e).symm)).trans h.cells, row_grown h.tabs hg (by rw [blk_slice]; simpa using r3), ⟨k, ref_grown hk hg (fun e => r2 e.symm)⟩, row_grown h.nt hg r4, row_grown h.pg hg r5, ⟨fa, fc, hv, nums_grown hf hg (by rw [← hv]; exact r6)⟩, h.b0, h.nd, fun b hb => Nat.lt_of_lt_of_le (h.lt b hb) hg.size⟩
theorem LAt.below {w w' : World} {base n X tb tc a : Nat} {vn vp vf : Value} {x : Lay} (h : LAt w base n X tb tc a vn vp vf x) (hb : Below w.heap.size w w') : LAt w' base n X tb tc a vn vp vf x :=
  h.grown (r := w.heap.size) ⟨hb.os, hb.tape, hb.output, hb.size, fun k hk _ => hb.block k hk⟩ fun hm => absurd (h.lt _ hm) (by omega)
/-- the places of pages are others -/
theorem LAt.setAt {w w' : World} {base n n' X tb tc a k' : Nat} {vn vp vf : Value} {x : Lay} {F : Int → Option Ref} (h : LAt w base n X tb tc a vn vp vf x) (hr : RefMap w' a n' F k') (hg : w.grownBy w' (some a)) : LAt w' base n' X tb tc a vn vp vf { x with at_ := F } := by
  have hnd := h.nd
  simp only [List.nodup_cons, List.mem_cons, List.mem_append, not_or] at hnd
  obtain ⟨⟨x1, x2, x3, x4, x5⟩, ⟨a1, a2, a3, a4⟩, _⟩ := hnd
  obtain ⟨fa, fc, hv, hf⟩ := h.free
  exact ⟨(hg.block X (h.lt X (by simp)) (fun e => x1 (Option.some.inj e))).trans h.cells, row_grown h.tabs hg (by rw [blk_slice]; simpa using a1), ⟨k', hr⟩, row_grown h.nt hg a2, row_grown h.pg hg a3, ⟨fa, fc, hv, nums_grown hf hg (by rw [← hv]; exact a4)⟩, h.b0, h.nd, fun b hb => Nat.lt_of_lt_of_le (h.lt b hb) hg.size⟩
/-- a table's place is another -/
theorem LAt.setTab {w : World} {base n X tb tc a : Nat} {vn vp vf : Value} {x : Lay} (h : LAt w base n X tb tc a vn vp vf x) (t : Nat) (r : Ref) :
    LAt ((w.setCell ⟨tb, t * 2, none⟩ (.int .i64 r.1)).setCell ⟨tb, t * 2 + 1, none⟩ (.int .u32 (r.2 : Int))) base n X tb tc a vn vp vf { x with tabs := x.tabs.set t r } := by
  have hnd := h.nd
  simp only [List.nodup_cons, List.mem_cons, List.mem_append, not_or] at hnd
  obtain ⟨⟨x1, x2, x3, x4, x5⟩, ⟨a1, a2, a3, a4⟩, ⟨t1, t2, t3⟩, _⟩ := hnd
  obtain ⟨fa, fc, hv, hf⟩ := h.free
  obtain ⟨k, hk⟩ := h.at_
  have hg : w.grownBy ((w.setCell ⟨tb, t * 2, none⟩ (.int .i64 r.1)).setCell ⟨tb, t * 2 + 1, none⟩ (.int .u32 (r.2 : Int))) (some tb) := (grown_set w tb (t * 2) _).trans (grown_set _ tb (t * 2 + 1) _)
  exact ⟨(hg.block X (h.lt X (by simp)) (fun e => x2 (Option.some.inj e))).trans h.cells, own_ref h.tabs t r, ⟨k, ref_grown hk hg a1⟩, row_grown h.nt hg t1, row_grown h.pg hg t2, ⟨fa, fc, hv, nums_grown hf hg (by rw [← hv]; exact t3)⟩, h.b0, h.nd, fun b hb => Nat.lt_of_lt_of_le (h.lt b hb) hg.size⟩
/-- one is taken -/
theorem LAt.setFree {w : World} {base n X tb tc a : Nat} {vn vp : Value} {x : Lay} {g o o' c f : Nat} {fs : List Nat} (h : LAt w base n X tb tc a vn vp (.slice (some ⟨g, o, none⟩) (fs.length + 1) c) x) (hf : x.free = f :: fs) (hn' : Nums .i64 w (some ⟨g, o', none⟩) fs.length (c - 1) fs) :
    LAt (w.setCell ⟨X, 4, none⟩ (.slice (some ⟨g, o', none⟩) fs.length (c - 1))) base n X tb tc a vn vp (.slice (some ⟨g, o', none⟩) fs.length (c - 1)) { x with free := fs } := by
  have hnd := h.nd
  rw [blk_slice] at hnd
  have hnd' := hnd
  simp only [List.nodup_cons, List.mem_cons, List.mem_append, not_or] at hnd
  obtain ⟨⟨x1, x2, x3, x4, x5⟩, _⟩ := hnd
  obtain ⟨fa, fc, hv, hn⟩ := h.free
  rw [hf] at hv hn
  cases hv
  obtain ⟨k, hk⟩ := h.at_
  have hg := grown_set w X 4 (.slice (some ⟨g, o', none⟩) fs.length (c - 1))
  have hc := h.cells
  refine ⟨by simp [World.setCell, Array.getElem?_modify, hc], row_grown h.tabs hg (by rw [blk_slice]; simpa using x2), ⟨k, ref_grown hk hg (fun e => x1 e.symm)⟩, row_grown h.nt hg x3, row_grown h.pg hg x4, ⟨_, _, rfl, ?_⟩, h.b0, by rw [blk_slice]; exact hnd', fun b hb => ?_⟩
  · exact nums_grown hn' hg (by rw [blk_slice]; simpa using x5)
  · rw [blk_slice] at hb
    have := h.lt b (by rw [blk_slice]; exact hb)
    simpa using this
theorem row_same {w w' : World} {base : Nat} {e : TypeId} {size : Nat} {v : Value} {n : Nat} {xs : List Value} (h : w.ownsRow base e size v n xs) (hs : ∀ g, v.ownBlock = some g → w'.heap[g]? = w.heap[g]?) : w'.ownsRow base e size v n xs := by
  obtain ⟨h1, h2 | ⟨g, c, cur, rfl, hb, hc, q⟩⟩ := h
  · exact ⟨h1, .inl h2⟩
  · exact ⟨h1, .inr ⟨g, c, cur, rfl, hb, (hs g rfl).trans hc, q⟩⟩
theorem nodup_put {L1 B L2 : List Nat} {g : Nat} (h : (L1 ++ (B ++ L2)).Nodup) (h1 : g ∉ L1) (h2 : g ∉ L2) : (L1 ++ ([g] ++ L2)).Nodup := by
  rw [List.nodup_append] at h ⊢
  obtain ⟨a1, a2, a3⟩ := h
  rw [List.nodup_append] at a2
  obtain ⟨b1, b2, b3⟩ := a2
  refine ⟨a1, ?_, ?_⟩
  · rw [List.singleton_append, List.nodup_cons]
    exact ⟨h2, b2⟩
  · intro x hx y hy e
    subst e
    rcases List.mem_append.1 hy with hy | hy
    · rw [List.mem_singleton.1 hy] at hx
      exact h1 hx
    · exact a3 x hx x (by simp [hy]) rfl
/-- a page's number is appended -/
theorem LAt.pushPg {w w1 : World} {base n X tb tc a : Nat} {vn vp vf : Value} {x : Lay} (h : LAt w base n X tb tc a vn vp vf x) {g' c' p q : Nat} (hq : q = x.pg.length + 1)
    (own' : w1.ownsRow base 3 1 (.slice (some ⟨g', 0, none⟩) q c') q (nums .i64 (x.pg ++ [p]))) (hg : w.grownBy w1 vp.ownBlock) (hat : vp.ownBlock = some g' ∨ g' = w.heap.size) (hlt : g' < w1.heap.size) :
    w1.cell? ⟨X, 3, none⟩ = some vp ∧ (∀ j, w1.frozen? ⟨X, j, none⟩ = false) ∧ LAt (w1.setCell ⟨X, 3, none⟩ (.slice (some ⟨g', 0, none⟩) q c')) base n X tb tc a vn (.slice (some ⟨g', 0, none⟩) q c') vf { x with pg := x.pg ++ [p] } := by
  subst hq
  obtain ⟨fa, fc, hv, hf⟩ := h.free
  obtain ⟨k, hk⟩ := h.at_
  have hnd := h.nd
  have hnd0 : ((X :: a :: tb :: blk vn) ++ (blk vp ++ blk vf)).Nodup := h.nd
  have hsep : ∀ b, b ∈ X :: a :: tb :: (blk vn ++ blk vf) → b ∉ blk vp := by
    intro b hb hm
    rw [List.nodup_append] at hnd0
    obtain ⟨_, a2, a3⟩ := hnd0
    rw [List.nodup_append] at a2
    rcases List.mem_append.1 (show b ∈ (X :: a :: tb :: blk vn) ++ blk vf from hb) with hb | hb
    · exact a3 b hb b (by simp [hm]) rfl
    · exact a2.2.2 b hm b hb rfl
  have hin : ∀ b, b ∈ X :: a :: tb :: (blk vn ++ blk vf) → b < w.heap.size := fun b hb => h.lt b (by
    simp only [List.mem_cons, List.mem_append] at hb ⊢
    rcases hb with hb | hb | hb | hb | hb <;> simp [hb])
  have hkeep : ∀ b, b ∈ X :: a :: tb :: (blk vn ++ blk vf) → w1.heap[b]? = w.heap[b]? := fun b hb => hg.block b (hin b hb) fun e => hsep b hb (by unfold blk; rw [← e]; simp)
  have hnew : ∀ b, b ∈ X :: a :: tb :: (blk vn ++ blk vf) → b ≠ g' := by
    rintro b hb rfl
    rcases hat with e | e
    · exact hsep b hb (by unfold blk; rw [e]; simp)
    · have := hin b hb; omega
  have hX := hkeep X (by simp)
  have hXc : w1.heap[X]? = some (.cells (lcells tb tc a vn vp vf) 100) := hX.trans h.cells
  have hset := grown_set w1 X 3 (.slice (some ⟨g', 0, none⟩) (x.pg.length + 1) c')
  simp only [List.nodup_cons, List.mem_cons, List.mem_append, not_or] at hnd
  obtain ⟨⟨x1, x2, x3, x4, x5⟩, _⟩ := hnd
  have hk2 : ∀ b, b ∈ X :: a :: tb :: (blk vn ++ blk vf) → b ≠ X → (w1.setCell ⟨X, 3, none⟩ (.slice (some ⟨g', 0, none⟩) (x.pg.length + 1) c')).heap[b]? = w.heap[b]? := fun b hb hne =>
    (hset.block b (Nat.lt_of_lt_of_le (hin b hb) hg.size) fun e => hne (Option.some.inj e)).trans (hkeep b hb)
  have hsz : w.heap.size ≤ w1.heap.size := hg.size
  refine ⟨by simp [World.cell?, hXc], fun j => by simp [World.frozen?, hXc], ⟨by simp [World.setCell, Array.getElem?_modify, hXc], row_same h.tabs (fun g e => hk2 g ?_ ?_), ⟨k, hk.still (hk2 a (by simp) (fun e => x1 e.symm))⟩, row_same h.nt (fun g e => hk2 g ?_ ?_), ?_, ⟨fa, fc, hv, ?_⟩, h.b0, ?_, ?_⟩⟩
  · have : tb = g := by simpa [Value.ownBlock] using e
    rw [← this]; simp
  · have : tb = g := by simpa [Value.ownBlock] using e
    rw [← this]; exact fun e => x2 e.symm
  · have : g ∈ blk vn := by unfold blk; rw [e]; simp
    simp [this]
  · have : g ∈ blk vn := by unfold blk; rw [e]; simp
    rintro rfl
    exact x3 this
  · have e : (x.pg ++ [p]).length = x.pg.length + 1 := by simp
    show World.ownsRow _ _ _ _ _ (x.pg ++ [p]).length _
    rw [e]
    refine row_grown own' hset ?_
    rw [blk_slice]
    simp only [List.mem_singleton]
    exact hnew X (by simp)
  · refine Row.keep hf fun b o e _ => hk2 b ?_ ?_
    · have : b ∈ blk vf := by rw [hv, e, blk_slice]; simp
      simp [this]
    · have : b ∈ blk vf := by rw [hv, e, blk_slice]; simp
      rintro rfl
      exact x5 this
  · rw [blk_slice]
    exact nodup_put (L1 := X :: a :: tb :: blk vn) hnd0 (fun hm => hnew g' (by simp only [List.mem_cons, List.mem_append] at hm ⊢; rcases hm with hm | hm | hm | hm <;> simp [hm]) rfl) (fun hm => hnew g' (by simp [hm]) rfl)
  · intro b hb
    rw [blk_slice] at hb
    simp only [List.mem_cons, List.mem_append, List.not_mem_nil, or_false] at hb
    have hs2 : (w1.setCell ⟨X, 3, none⟩ (.slice (some ⟨g', 0, none⟩) (x.pg.length + 1) c')).heap.size = w1.heap.size := by simp
    rw [hs2]
    rcases hb with hb | hb | hb | hb | hb | hb
    · exact Nat.lt_of_lt_of_le (hin b (by simp [hb])) hsz
    · exact Nat.lt_of_lt_of_le (hin b (by simp [hb])) hsz
    · exact Nat.lt_of_lt_of_le (hin b (by simp [hb])) hsz
    · exact Nat.lt_of_lt_of_le (hin b (by simp [hb])) hsz
    · rw [hb]; exact hlt
    · exact Nat.lt_of_lt_of_le (hin b (by simp [hb])) hsz
/-- a table's number is appended -/
theorem LAt.pushNt {w w1 : World} {base n X tb tc a : Nat} {vn vp vf : Value} {x : Lay} (h : LAt w base n X tb tc a vn vp vf x) {g' c' p q : Nat} (hq : q = x.nt.length + 1)
    (own' : w1.ownsRow base 3 1 (.slice (some ⟨g', 0, none⟩) q c') q (nums .i64 (x.nt ++ [p]))) (hg : w.grownBy w1 vn.ownBlock) (hat : vn.ownBlock = some g' ∨ g' = w.heap.size) (hlt : g' < w1.heap.size) :
    w1.cell? ⟨X, 2, none⟩ = some vn ∧ (∀ j, w1.frozen? ⟨X, j, none⟩ = false) ∧ LAt (w1.setCell ⟨X, 2, none⟩ (.slice (some ⟨g', 0, none⟩) q c')) base n X tb tc a (.slice (some ⟨g', 0, none⟩) q c') vp vf { x with nt := x.nt ++ [p] } := by
  subst hq
  obtain ⟨fa, fc, hv, hf⟩ := h.free
  obtain ⟨k, hk⟩ := h.at_
  have hnd := h.nd
  have hnd0 : ((X :: a :: [tb]) ++ (blk vn ++ (blk vp ++ blk vf))).Nodup := h.nd
  have hsep : ∀ b, b ∈ X :: a :: tb :: (blk vp ++ blk vf) → b ∉ blk vn := by
    intro b hb hm
    rw [List.nodup_append] at hnd0
    obtain ⟨_, a2, a3⟩ := hnd0
    rw [List.nodup_append] at a2
    rcases List.mem_append.1 (show b ∈ (X :: a :: [tb]) ++ (blk vp ++ blk vf) from hb) with hb | hb
    · exact a3 b hb b (by simp [hm]) rfl
    · exact a2.2.2 b hm b hb rfl
  have hin : ∀ b, b ∈ X :: a :: tb :: (blk vp ++ blk vf) → b < w.heap.size := fun b hb => h.lt b (by
    simp only [List.mem_cons, List.mem_append] at hb ⊢
    rcases hb with hb | hb | hb | hb | hb <;> simp [hb])
  have hkeep : ∀ b, b ∈ X :: a :: tb :: (blk vp ++ blk vf) → w1.heap[b]? = w.heap[b]? := fun b hb => hg.block b (hin b hb) fun e => hsep b hb (by unfold blk; rw [← e]; simp)
  have hnew : ∀ b, b ∈ X :: a :: tb :: (blk vp ++ blk vf) → b ≠ g' := by
    rintro b hb rfl
    rcases hat with e | e
    · exact hsep b hb (by unfold blk; rw [e]; simp)
    · have := hin b hb; omega
  have hX := hkeep X (by simp)
  have hXc : w1.heap[X]? = some (.cells (lcells tb tc a vn vp vf) 100) := hX.trans h.cells
  have hset := grown_set w1 X 2 (.slice (some ⟨g', 0, none⟩) (x.nt.length + 1) c')
  simp only [List.nodup_cons, List.mem_cons, List.mem_append, not_or] at hnd
  obtain ⟨⟨x1, x2, x3, x4, x5⟩, _⟩ := hnd
  have hk2 : ∀ b, b ∈ X :: a :: tb :: (blk vp ++ blk vf) → b ≠ X → (w1.setCell ⟨X, 2, none⟩ (.slice (some ⟨g', 0, none⟩) (x.nt.length + 1) c')).heap[b]? = w.heap[b]? := fun b hb hne =>
    (hset.block b (Nat.lt_of_lt_of_le (hin b hb) hg.size) fun e => hne (Option.some.inj e)).trans (hkeep b hb)
  have hsz : w.heap.size ≤ w1.heap.size := hg.size
  refine ⟨by simp [World.cell?, hXc], fun j => by simp [World.frozen?, hXc], ⟨by simp [World.setCell, Array.getElem?_modify, hXc], row_same h.tabs (fun g e => hk2 g ?_ ?_), ⟨k, hk.still (hk2 a (by simp) (fun e => x1 e.symm))⟩, ?_, row_same h.pg (fun g e => hk2 g ?_ ?_), ⟨fa, fc, hv, ?_⟩, h.b0, ?_, ?_⟩⟩
  · have : tb = g := by simpa [Value.ownBlock] using e
    rw [← this]; simp
  · have : tb = g := by simpa [Value.ownBlock] using e
    rw [← this]; exact fun e => x2 e.symm
  · have e : (x.nt ++ [p]).length = x.nt.length + 1 := by simp
    show World.ownsRow _ _ _ _ _ (x.nt ++ [p]).length _
    rw [e]
    refine row_grown own' hset ?_
    rw [blk_slice]
    simp only [List.mem_singleton]
    exact hnew X (by simp)
  · have : g ∈ blk vp := by unfold blk; rw [e]; simp
    simp [this]
  · have : g ∈ blk vp := by unfold blk; rw [e]; simp
    rintro rfl
    exact x4 this
  · refine Row.keep hf fun b o e _ => hk2 b ?_ ?_
    · have : b ∈ blk vf := by rw [hv, e, blk_slice]; simp
      simp [this]
    · have : b ∈ blk vf := by rw [hv, e, blk_slice]; simp
      rintro rfl
      exact x5 this
  · rw [blk_slice]
    exact nodup_put (L1 := X :: a :: [tb]) hnd0 (fun hm => hnew g' (by simp only [List.mem_cons, List.mem_append] at hm ⊢; rcases hm with hm | hm | hm | hm <;> first | (cases hm; done) | simp [hm]) rfl) (fun hm => hnew g' (by rcases List.mem_append.1 hm with hm | hm <;> simp [hm]) rfl)
  · intro b hb
    rw [blk_slice] at hb
    simp only [List.mem_cons, List.mem_append, List.not_mem_nil, or_false] at hb
    have hs2 : (w1.setCell ⟨X, 2, none⟩ (.slice (some ⟨g', 0, none⟩) (x.nt.length + 1) c')).heap.size = w1.heap.size := by simp
    rw [hs2]
    rcases hb with hb | hb | hb | hb | hb | hb
    · exact Nat.lt_of_lt_of_le (hin b (by simp [hb])) hsz
    · exact Nat.lt_of_lt_of_le (hin b (by simp [hb])) hsz
    · exact Nat.lt_of_lt_of_le (hin b (by simp [hb])) hsz
    · rw [hb]; exact hlt
    · exact Nat.lt_of_lt_of_le (hin b (by simp [hb])) hsz
    · exact Nat.lt_of_lt_of_le (hin b (by simp [hb])) hsz
/-- a free block's number is appended -/
theorem LAt.pushFree {w w1 : World} {base n X tb tc a : Nat} {vn vp vf : Value} {x : Lay} (h : LAt w base n X tb tc a vn vp vf x) {g' c' p q : Nat} (hq : q = x.free.length + 1)
    (own' : w1.ownsRow base 3 1 (.slice (some ⟨g', 0, none⟩) q c') q (nums .i64 (x.free ++ [p]))) (hg : w.grownBy w1 vf.ownBlock) (hat : vf.ownBlock = some g' ∨ g' = w.heap.size) (hlt : g' < w1.heap.size) :
    w1.cell? ⟨X, 4, none⟩ = some vf ∧ (∀ j, w1.frozen? ⟨X, j, none⟩ = false) ∧ LAt (w1.setCell ⟨X, 4, none⟩ (.slice (some ⟨g', 0, none⟩) q c')) base n X tb tc a vn vp (.slice (some ⟨g', 0, none⟩) q c') { x with free := x.free ++ [p] } ∧ (w1.setCell ⟨X, 4, none⟩ (.slice (some ⟨g', 0, none⟩) q c')).ownsRow base 3 1 (.slice (some ⟨g', 0, none⟩) q c') q (nums .i64 (x.free ++ [p])) := by
  subst hq
  obtain ⟨fa, fc, hv, hf⟩ := h.free
  obtain ⟨k, hk⟩ := h.at_
  have hnd := h.nd
  have hnd0 : ((X :: a :: tb :: (blk vn ++ blk vp)) ++ (blk vf ++ [])).Nodup := by simpa using h.nd
  have hsep : ∀ b, b ∈ X :: a :: tb :: (blk vn ++ blk vp) → b ∉ blk vf := by
    intro b hb hm
    rw [List.nodup_append] at hnd0
    obtain ⟨_, a2, a3⟩ := hnd0
    rw [List.nodup_append] at a2
    rcases List.mem_append.1 (show b ∈ (X :: a :: tb :: (blk vn ++ blk vp)) ++ [] by simpa using hb) with hb | hb
    · exact a3 b hb b (by simp [hm]) rfl
    · exact a2.2.2 b hm b hb rfl
  have hin : ∀ b, b ∈ X :: a :: tb :: (blk vn ++ blk vp) → b < w.heap.size := fun b hb => h.lt b (by
    simp only [List.mem_cons, List.mem_append] at hb ⊢
    rcases hb with hb | hb | hb | hb | hb <;> simp [hb])
  have hkeep : ∀ b, b ∈ X :: a :: tb :: (blk vn ++ blk vp) → w1.heap[b]? = w.heap[b]? := fun b hb => hg.block b (hin b hb) fun e => hsep b hb (by unfold blk; rw [← e]; simp)
  have hnew : ∀ b, b ∈ X :: a :: tb :: (blk vn ++ blk vp) → b ≠ g' := by
    rintro b hb rfl
    rcases hat with e | e
    · exact hsep b hb (by unfold blk; rw [e]; simp)
    · have := hin b hb; omega
  have hX := hkeep X (by simp)
  have hXc : w1.heap[X]? = some (.cells (lcells tb tc a vn vp vf) 100) := hX.trans h.cells
  have hset := grown_set w1 X 4 (.slice (some ⟨g', 0, none⟩) (x.free.length + 1) c')
  simp only [List.nodup_cons, List.mem_cons, List.mem_append, not_or] at hnd
  obtain ⟨⟨x1, x2, x3, x4, x5⟩, _⟩ := hnd
  have hk2 : ∀ b, b ∈ X :: a :: tb :: (blk vn ++ blk vp) → b ≠ X → (w1.setCell ⟨X, 4, none⟩ (.slice (some ⟨g', 0, none⟩) (x.free.length + 1) c')).heap[b]? = w.heap[b]? := fun b hb hne =>
    (hset.block b (Nat.lt_of_lt_of_le (hin b hb) hg.size) fun e => hne (Option.some.inj e)).trans (hkeep b hb)
  have hsz : w.heap.size ≤ w1.heap.size := hg.size
  have hown2 := row_grown own' hset (by rw [blk_slice]; simp only [List.mem_singleton]; exact hnew X (by simp))
  refine ⟨by simp [World.cell?, hXc], fun j => by simp [World.frozen?, hXc], ⟨by simp [World.setCell, Array.getElem?_modify, hXc], row_same h.tabs (fun g e => hk2 g ?_ ?_), ⟨k, hk.still (hk2 a (by simp) (fun e => x1 e.symm))⟩, row_same h.nt (fun g e => hk2 g ?_ ?_), row_same h.pg (fun g e => hk2 g ?_ ?_), ⟨some ⟨g', 0, none⟩, c', by simp, ?_⟩, h.b0, ?_, ?_⟩, hown2⟩
  · have : tb = g := by simpa [Value.ownBlock] using e
    rw [← this]; simp
  · have : tb = g := by simpa [Value.ownBlock] using e
    rw [← this]; exact fun e => x2 e.symm
  · have : g ∈ blk vn := by unfold blk; rw [e]; simp
    simp [this]
  · have : g ∈ blk vn := by unfold blk; rw [e]; simp
    rintro rfl
    exact x3 this
  · have : g ∈ blk vp := by unfold blk; rw [e]; simp
    simp [this]
  · have : g ∈ blk vp := by unfold blk; rw [e]; simp
    rintro rfl
    exact x4 this
  · have e : (x.free ++ [p]).length = x.free.length + 1 := by simp
    show Nums _ _ _ (x.free ++ [p]).length _ _
    rw [e]
    exact (Row.owned hown2).2
  · rw [blk_slice]
    have := nodup_put (L1 := X :: a :: tb :: (blk vn ++ blk vp)) hnd0 (fun hm => hnew g' hm rfl) (by simp)
    simpa using this
  · intro b hb
    rw [blk_slice] at hb
    simp only [List.mem_cons, List.mem_append, List.not_mem_nil, or_false] at hb
    have hs2 : (w1.setCell ⟨X, 4, none⟩ (.slice (some ⟨g', 0, none⟩) (x.free.length + 1) c')).heap.size = w1.heap.size := by simp
    rw [hs2]
    rcases hb with hb | hb | hb | hb | hb | hb
    · exact Nat.lt_of_lt_of_le (hin b (by simp [hb])) hsz
    · exact Nat.lt_of_lt_of_le (hin b (by simp [hb])) hsz
    · exact Nat.lt_of_lt_of_le (hin b (by simp [hb])) hsz
    · exact Nat.lt_of_lt_of_le (hin b (by simp [hb])) hsz
    · exact Nat.lt_of_lt_of_le (hin b (by simp [hb])) hsz
    · rw [hb]; exact hlt
end Go.Proofs.YtbjfgdahfpfgdaaGreatDoor.PgW
