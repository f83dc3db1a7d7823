/- A store in memory (package page): what it asks of the world; what leaves it; The walks of a store's small methods; The walks of a store's Write, Drop, Read; A pair mended; Plain facts about what a device holds: each row is a block's bytes; Plain facts: a copy of a pair, whatever was done to it (the plain half of XGPairCp); The walk of a pair's Mend over a store; A slice of integers. -/
import Derived.Test.YtbjfgdahfpfgdaaGreatDoorPageFaultsP2
import Derived.Test.YtbjfgdahfpfgdaaGreatDoorPageFaultsP4
import Derived.Test.YtbjfgdahfpfgdaaGreatDoorPageFaultsP5
import Derived.Test.YtbjfgdahfpfgdaaGreatDoorPageFaultsP6
import Derived.Test.YtbjfgdahfpfgdaaGreatDoorProg
import Derived.Test.YtbjfgdahfpfgdaaGreatDoorPageFaultsP1
namespace Go.Proofs.YtbjfgdahfpfgdaaGreatDoor.PgW
open Go Go.RowKit Go.Maps Go.Proofs.YtbjfgdahfpfgdaaGreatDoor.Mem Go.Proofs.YtbjfgdahfpfgdaaGreatDoor.MapsW Go.Proofs.YtbjfgdahfpfgdaaGreatDoor.SeeW Go.Proofs.YtbjfgdahfpfgdaaGreatDoor.DevG Go.Proofs.YtbjfgdahfpfgdaaGreatDoor.PairG Go.Proofs.YtbjfgdahfpfgdaaGreatDoor.RefsW Go.Proofs.YtbjfgdahfpfgdaaGreatDoor.PgP
set_option linter.unusedVariables false
set_option maxRecDepth 100000

/-- pairs on a device that may be armed, or down -/
structure PR (w : World) (lo d n : Nat) (m : Mp) (D : Dv) (p h c : Nat) : Prop where
  dev : At w lo d n m D
  cells : w.heap[p]? = some (.cells (pcells d D.blocks h c) 160)
  half : 2 * h ≤ D.blocks
  most : D.blocks ≤ 6000
  lop : lo ≤ p
theorem PR.pat {w : World} {lo d n : Nat} {m : Mp} {D : Dv} {p h c : Nat} (k : PR w lo d n m D p h c) (hu : D.down = false) (hz : D.fuse = 0) : PAt w lo d n m D p h c := ⟨k.dev, k.cells, k.half, k.most, k.lop, hu, hz⟩
theorem PR.of {w : World} {lo d n : Nat} {m : Mp} {D : Dv} {p h c : Nat} (k : PAt w lo d n m D p h c) : PR w lo d n m D p h c := ⟨k.dev, k.cells, k.half, k.most, k.lop⟩
theorem PR.ne {w : World} {lo d n : Nat} {m : Mp} {D : Dv} {p h c : Nat} (k : PR w lo d n m D p h c) : p ≠ d := by
  rintro rfl
  have h1 := k.cells
  rw [k.dev.cells] at h1
  have h2 := (Obj.cells.inj (Option.some.inj h1)).1
  have h3 := congrArg (·[0]?) h2
  simp at h3
theorem PR.c {w : World} {lo d n : Nat} {m : Mp} {D : Dv} {p h c : Nat} (k : PR w lo d n m D p h c) :
    w.cell? ⟨p, 0, none⟩ = some (ptr d) ∧ w.cell? ⟨p, 1, none⟩ = some (.int .i64 D.blocks) ∧ w.cell? ⟨p, 2, none⟩ = some (.int .i64 h) ∧ w.cell? ⟨p, 3, none⟩ = some (.int .i64 c) ∧ w.frozen? ⟨p, 3, none⟩ = false := by
  have := k.cells
  simp [World.cell?, World.frozen?, this]
/-- what the device does leaves the pairs -/
theorem PR.turn {w w' : World} {lo d n n' : Nat} {m m' : Mp} {D D' : Dv} {p h c : Nat} (k : PR w lo d n m D p h c) (hd : At w' lo d n' m' D') (ht : Turn (own d m) w w') (hb : D'.blocks = D.blocks) : PR w' lo d n' m' D' p h c := by
  refine ⟨hd, ?_, by rw [hb]; exact k.half, by rw [hb]; exact k.most, k.lop⟩
  rw [hb]
  exact ht.cells k.cells (k.dev.out k.cells k.ne)
theorem PR.below {w w' : World} {lo d n : Nat} {m : Mp} {D : Dv} {p h c : Nat} (k : PR w lo d n m D p h c) (hb : Below w.heap.size w w') : PR w' lo d n m D p h c :=
  k.turn (k.dev.below hb) (Turn.of_below hb) rfl
theorem PR.mono {w : World} {lo lo' d n n' : Nat} {m : Mp} {D : Dv} {p h c : Nat} (k : PR w lo d n m D p h c) (hn : n ≤ n') (hl : lo' ≤ lo) : PR w lo' d n' m D p h c :=
  ⟨k.dev.mono hn hl, k.cells, k.half, k.most, Nat.le_trans hl k.lop⟩
theorem PR.plt {w : World} {lo d n : Nat} {m : Mp} {D : Dv} {p h c : Nat} (k : PR w lo d n m D p h c) : p < w.heap.size := (Array.getElem?_eq_some_iff.1 k.cells).1
theorem PR.nou8 {w : World} {lo d n : Nat} {m : Mp} {D : Dv} {p h c : Nat} (k : PR w lo d n m D p h c) : ∀ x ∈ p :: own d m, ∀ off z, w.cell? ⟨x, off, none⟩ ≠ some (.int .u8 z) := by
  intro x hx off z
  rcases List.mem_cons.1 hx with rfl | hx
  · refine nou8_cells k.cells ?_ off z
    intro v hv z e
    subst e
    simp at hv
  · exact At.nou8 k.dev x hx off z
/-- what writes elsewhere, into maps or into blocks whose first cell is no byte, leaves the pairs -/
theorem PR.away {S : List Nat} {w w' : World} {lo d n : Nat} {m : Mp} {D : Dv} {p h c : Nat} (k : PR w lo d n m D p h c) (ht : Turn S w w') (hS : ∀ x ∈ S, x ∉ p :: own d m)
    (hb : ∀ x ∈ S, NoCells w x ∨ ∃ v, w.cell? ⟨x, 0, none⟩ = some v ∧ ∀ z, v ≠ .int .u8 z) : PR w' lo d n m D p h c := by
  refine ⟨k.dev.turn ht (fun hm => hS d hm (by simp)) (fun x hx hm => hS x hm (by simp [own, hx])) hb, ht.cells k.cells (fun hm => hS p hm (by simp)), k.half, k.most, k.lop⟩

/-- a store's cells -/
abbrev scells (d p : Nat) (ep : Nat) (ra : Option Addr) (rn rc : Nat) (tb tc a o : Nat) (z : Int) : Array Value :=
  #[ptr d, ptr p, .int .i64 ep, .slice ra rn rc, .slice (some ⟨tb, 0, none⟩) 7 tc, .map (some a), .map (some o), .int .i64 z]
/-- where a store lies -/
structure Si where
  d : Nat
  p : Nat
  H : Nat
  c : Nat
  s : Nat
  a : Nat
  o : Nat
  ra : Option Addr
  rc : Nat
  tb : Nat
  tc : Nat
  z : Int
/-- a store in memory -/
structure SAt (w : World) (lo n : Nat) (m : Mp) (D : Dv) (I : Si) (S : St) : Prop where
  pr : PR w lo I.d n m D I.p I.H I.c
  cells : w.heap[I.s]? = some (.cells (scells I.d I.p S.ep I.ra S.rs.length I.rc I.tb I.tc I.a I.o I.z) 93)
  refs : Refs w I.ra S.rs.length I.rc S.rs
  tabs : Refs w (some ⟨I.tb, 0, none⟩) 7 I.tc S.tabs
  at_ : ∃ k, RefMap w I.a n S.at_ k
  now : ∃ k, NowMap w lo I.o n S.now k
  ao : I.a ≠ I.o
  sx : I.s ∉ own I.d m
  ax : I.a ∉ own I.d m
  ox : I.o ∉ own I.d m
  rx : ∀ b off, I.ra = some ⟨b, off, none⟩ → b < w.heap.size ∧ b ∉ I.s :: I.p :: I.a :: I.o :: own I.d m
  tx : I.tb ∉ I.s :: I.p :: I.a :: I.o :: own I.d m
  slo : lo ≤ I.s ∧ lo ≤ I.a ∧ lo ≤ I.o
/-- what is a store's alone -/
abbrev Si.own (I : Si) (m : Mp) : List Nat := I.s :: I.p :: I.a :: I.o :: DevG.own I.d m
theorem SAt.c {w : World} {lo n : Nat} {m : Mp} {D : Dv} {I : Si} {S : St} (k : SAt w lo n m D I S) :
    w.cell? ⟨I.s, 0, none⟩ = some (ptr I.d) ∧ w.cell? ⟨I.s, 1, none⟩ = some (ptr I.p) ∧ w.cell? ⟨I.s, 2, none⟩ = some (.int .i64 S.ep) ∧ w.cell? ⟨I.s, 3, none⟩ = some (.slice I.ra S.rs.length I.rc) ∧ w.cell? ⟨I.s, 4, none⟩ = some (.slice (some ⟨I.tb, 0, none⟩) 7 I.tc) ∧
    w.cell? ⟨I.s, 5, none⟩ = some (.map (some I.a)) ∧ w.cell? ⟨I.s, 6, none⟩ = some (.map (some I.o)) ∧ w.cell? ⟨I.s, 7, none⟩ = some (.int .i64 I.z) ∧
    (∀ j, w.frozen? ⟨I.s, j, none⟩ = false) := by
  have := k.cells
  simp [World.cell?, World.frozen?, this]
theorem SAt.slt {w : World} {lo n : Nat} {m : Mp} {D : Dv} {I : Si} {S : St} (k : SAt w lo n m D I S) : I.s < w.heap.size := (Array.getElem?_eq_some_iff.1 k.cells).1
theorem SAt.amap {w : World} {lo n : Nat} {m : Mp} {D : Dv} {I : Si} {S : St} (k : SAt w lo n m D I S) : ∃ es ck, w.heap[I.a]? = some (.map es ck) := let ⟨_, h⟩ := k.at_; h.block
theorem SAt.omap {w : World} {lo n : Nat} {m : Mp} {D : Dv} {I : Si} {S : St} (k : SAt w lo n m D I S) : ∃ es ck, w.heap[I.o]? = some (.map es ck) := let ⟨_, h⟩ := k.now; h.block
theorem SAt.ne {w : World} {lo n : Nat} {m : Mp} {D : Dv} {I : Si} {S : St} (k : SAt w lo n m D I S) : I.s ≠ I.p ∧ I.s ≠ I.a ∧ I.s ≠ I.o ∧ I.p ≠ I.a ∧ I.p ≠ I.o := by
  obtain ⟨e1, c1, ha⟩ := k.amap
  obtain ⟨e2, c2, ho⟩ := k.omap
  have hs := k.cells
  have hp := k.pr.cells
  refine ⟨fun e => ?_, fun e => ?_, fun e => ?_, fun e => ?_, fun e => ?_⟩
  · rw [e, hp] at hs
    have h3 := congrArg (·[1]?) (Obj.cells.inj (Option.some.inj hs)).1
    simp at h3
  · rw [e, ha] at hs; cases hs
  · rw [e, ho] at hs; cases hs
  · rw [e, ha] at hp; cases hp
  · rw [e, ho] at hp; cases hp
theorem SAt.nou8 {w : World} {lo n : Nat} {m : Mp} {D : Dv} {I : Si} {S : St} (k : SAt w lo n m D I S) : ∀ x ∈ I.own m, ∀ off z, w.cell? ⟨x, off, none⟩ ≠ some (.int .u8 z) := by
  intro x hx off z
  obtain ⟨e1, c1, ha⟩ := k.amap
  obtain ⟨e2, c2, ho⟩ := k.omap
  rcases List.mem_cons.1 hx with rfl | hx
  · refine nou8_cells k.cells ?_ off z
    intro v hv z e
    subst e
    simp at hv
  · rcases List.mem_cons.1 hx with rfl | hx
    · exact k.pr.nou8 _ (by simp) off z
    · rcases List.mem_cons.1 hx with rfl | hx
      · intro e; simp [World.cell?, ha] at e
      · rcases List.mem_cons.1 hx with rfl | hx
        · intro e; simp [World.cell?, ho] at e
        · exact k.pr.nou8 _ (by simp [hx]) off z
theorem SAt.own_lo {w : World} {lo n : Nat} {m : Mp} {D : Dv} {I : Si} {S : St} (k : SAt w lo n m D I S) : ∀ x ∈ I.own m, lo ≤ x := by
  intro x hx
  rcases List.mem_cons.1 hx with rfl | hx
  · exact k.slo.1
  · rcases List.mem_cons.1 hx with rfl | hx
    · exact k.pr.lop
    · rcases List.mem_cons.1 hx with rfl | hx
      · exact k.slo.2.1
      · rcases List.mem_cons.1 hx with rfl | hx
        · exact k.slo.2.2
        · exact k.pr.dev.own_lo x hx
theorem SAt.own_lt {w : World} {lo n : Nat} {m : Mp} {D : Dv} {I : Si} {S : St} (k : SAt w lo n m D I S) : ∀ x ∈ I.own m, x < w.heap.size := by
  intro x hx
  obtain ⟨e1, c1, ha⟩ := k.amap
  obtain ⟨e2, c2, ho⟩ := k.omap
  rcases List.mem_cons.1 hx with rfl | hx
  · exact k.slt
  · rcases List.mem_cons.1 hx with rfl | hx
    · exact k.pr.plt
    · rcases List.mem_cons.1 hx with rfl | hx
      · exact (Array.getElem?_eq_some_iff.1 ha).1
      · rcases List.mem_cons.1 hx with rfl | hx
        · exact (Array.getElem?_eq_some_iff.1 ho).1
        · rcases List.mem_cons.1 hx with rfl | hx
          · exact k.pr.dev.dlt
          · obtain ⟨es, ck, hb⟩ := k.pr.dev.maps x hx
            exact (Array.getElem?_eq_some_iff.1 hb).1
theorem now_turn {S : List Nat} {w w' : World} {base b n k : Nat} {F : Int → Option (List Nat)} (h : NowMap w base b n F k) (ht : Turn S w w') (hb : b ∉ S) (hS : ∀ x ∈ S, ∀ off z, w.cell? ⟨x, off, none⟩ ≠ some (.int .u8 z)) : NowMap w' base b n F k := by
  obtain ⟨es, ck, hk⟩ := h.block
  refine h.keep (ht.block b (Array.getElem?_eq_some_iff.1 hk).1 hb) fun g _ hc hz => ?_
  obtain ⟨c, t, f, hc⟩ := hc
  obtain ⟨z, hz⟩ := hz
  exact ht.block g (Array.getElem?_eq_some_iff.1 hc).1 fun hm => hS g hm 0 z hz
theorem ref_turn {S : List Nat} {w w' : World} {b n k : Nat} {F : Int → Option (Int × Nat)} (h : RefMap w b n F k) (ht : Turn S w w') (hb : b ∉ S) : RefMap w' b n F k := by
  obtain ⟨es, ck, hk⟩ := h.block
  exact h.still (ht.block b (Array.getElem?_eq_some_iff.1 hk).1 hb)
theorem refs_turn {S : List Nat} {w w' : World} {a : Option Addr} {n cap : Nat} {rs : List (Int × Nat)} (h : Refs w a n cap rs) (ht : Turn S w w') (hS : ∀ b o, a = some ⟨b, o, none⟩ → b ∉ S) : Refs w' a n cap rs :=
  Row.keep h fun b o e hlt => ht.block b hlt (hS b o e)
/-- what the pairs and the device do leaves the store -/
theorem SAt.turn {w w' : World} {lo n n' : Nat} {m m' : Mp} {D D' : Dv} {I : Si} {S : St} {c' : Nat} (k : SAt w lo n m D I S) (hp : PR w' lo I.d n' m' D' I.p I.H c') (ht : Turn (I.p :: own I.d m) w w') (hn : n ≤ n') (hm : ∀ x ∈ own I.d m', x ∈ own I.d m ∨ w.heap.size ≤ x) :
    SAt w' lo n' m' D' { I with c := c' } S := by
  obtain ⟨n1, n2, n3, n4, n5⟩ := k.ne
  have hlt := k.own_lt
  obtain ⟨k1, h1⟩ := k.at_
  obtain ⟨k2, h2⟩ := k.now
  have hsx : I.s ∉ I.p :: own I.d m := by simp only [List.mem_cons, not_or]; exact ⟨n1, by simpa using k.sx⟩
  have hax : I.a ∉ I.p :: own I.d m := by simp only [List.mem_cons, not_or]; exact ⟨fun e => n4 e.symm, by simpa using k.ax⟩
  have hox : I.o ∉ I.p :: own I.d m := by simp only [List.mem_cons, not_or]; exact ⟨fun e => n5 e.symm, by simpa using k.ox⟩
  have hsub : ∀ x ∈ I.p :: own I.d m, x ∈ I.own m := fun x hx => by
    rcases List.mem_cons.1 hx with rfl | hx
    · simp
    · simp only [List.mem_cons]; exact .inr (.inr (.inr (.inr (List.mem_cons.1 hx))))
  have hnew : ∀ x, x < w.heap.size → x ∉ own I.d m → x ∉ own I.d m' := fun x h3 h4 h5 => (hm x h5).elim h4 (by omega)
  have hlist : ∀ b, b < w.heap.size → b ∉ I.own m → b ∉ I.own m' := by
    intro b hb h3 h4
    simp only [List.mem_cons, not_or] at h3 h4
    obtain ⟨q1, q2, q3, q4, q5⟩ := h3
    rcases h4 with h4 | h4 | h4 | h4 | h4
    · exact q1 h4
    · exact q2 h4
    · exact q3 h4
    · exact q4 h4
    · exact hnew b hb (by simpa using q5) (by simpa using h4)
  refine ⟨hp, ht.cells k.cells hsx, refs_turn k.refs ht fun b o e hm' => (k.rx b o e).2 (hsub b hm'), refs_turn k.tabs ht fun b o e hm' => ?_, ⟨k1, (ref_turn h1 ht hax).mono hn⟩, ⟨k2, (now_turn h2 ht hox fun x hx => k.nou8 x (hsub x hx)).mono hn (Nat.le_refl _)⟩, k.ao, hnew _ k.slt k.sx, hnew _ (hlt _ (by simp)) k.ax, hnew _ (hlt _ (by simp)) k.ox, ?_, ?_, k.slo⟩
  · cases e
    exact k.tx (hsub _ hm')
  · intro b off e
    obtain ⟨h3, h4⟩ := k.rx b off e
    exact ⟨Nat.lt_of_lt_of_le h3 ht.size, hlist b h3 h4⟩
  · refine hlist _ ?_ k.tx
    obtain ⟨b', o', e, hc, _⟩ := k.tabs.at (j := 0) (by rw [k.tabs.len]; decide)
    cases e
    exact World.block_lt_of_cell? _ _ hc
theorem SAt.below {w w' : World} {lo n : Nat} {m : Mp} {D : Dv} {I : Si} {S : St} (k : SAt w lo n m D I S) (hb : Below w.heap.size w w') : SAt w' lo n m D I S :=
  k.turn (k.pr.below hb) (Turn.of_below hb) (Nat.le_refl _) fun x hx => .inl hx
theorem SAt.mono {w : World} {lo n n' : Nat} {m : Mp} {D : Dv} {I : Si} {S : St} (k : SAt w lo n m D I S) (hn : n ≤ n') : SAt w lo n' m D I S :=
  k.turn (k.pr.mono hn (Nat.le_refl _)) (Turn.refl _ _) hn fun x hx => .inl hx
/-- what is written into the changes leaves all else -/
theorem SAt.putO {w w' : World} {lo n k' : Nat} {m : Mp} {D : Dv} {I : Si} {S : St} {N : Int → Option (List Nat)} (k : SAt w lo n m D I S) (hr : NowMap w' lo I.o (n + 1) N k') (hg : w.grownBy w' (some I.o)) : SAt w' lo (n + 1) m D I { S with now := N } := by
  obtain ⟨n1, n2, n3, n4, n5⟩ := k.ne
  obtain ⟨k1, h1⟩ := k.at_
  have ht : Turn [I.o] w w' := Turn.of_grown hg (by simp)
  have hno : NoCells w I.o := nocells k.omap
  have htx := k.tx
  refine ⟨(k.pr.away ht (fun x hx => ?_) (fun x hx => .inl (by rw [List.mem_singleton.1 hx]; exact hno))).mono (by omega) (Nat.le_refl _), ht.cells k.cells (by simpa using n3), refs_turn k.refs ht fun b o e hm => ?_, refs_turn k.tabs ht fun b o e hm => ?_, ⟨k1, (ref_turn h1 ht (by simpa using k.ao)).mono (by omega)⟩, ⟨k', hr⟩, k.ao, k.sx, k.ax, k.ox, fun b off e => ⟨Nat.lt_of_lt_of_le (k.rx b off e).1 ht.size, (k.rx b off e).2⟩, k.tx, k.slo⟩
  · rw [List.mem_singleton.1 hx]
    intro hm
    rcases List.mem_cons.1 hm with e | hm
    · exact n5 e.symm
    · exact k.ox hm
  · have h2 := (k.rx b o e).2
    rw [List.mem_singleton.1 hm] at h2
    simp at h2
  · cases e
    rw [List.mem_singleton.1 hm] at htx
    simp at htx
end Go.Proofs.YtbjfgdahfpfgdaaGreatDoor.PgW

namespace Go.Proofs.YtbjfgdahfpfgdaaGreatDoor.PgW
open Go Go.RowKit Go.Maps Go.Proofs.YtbjfgdahfpfgdaaGreatDoor.Mem Go.Proofs.YtbjfgdahfpfgdaaGreatDoor.MapsW Go.Proofs.YtbjfgdahfpfgdaaGreatDoor.SeeW Go.Proofs.YtbjfgdahfpfgdaaGreatDoor.DevG Go.Proofs.YtbjfgdahfpfgdaaGreatDoor.PairG Go.Proofs.YtbjfgdahfpfgdaaGreatDoor.RefsW Go.Proofs.YtbjfgdahfpfgdaaGreatDoor.PgP Go.Proofs.YtbjfgdahfpfgdaaGreatDoor.ConcatW
set_option linter.unusedVariables false
set_option maxRecDepth 100000

abbrev isP (i : Int) : Bool := decide (0 ≤ i) && decide (i < 256)
theorem is_w (i : Int) (w : World) : Calls Tryz.prog 47 #[.int .i64 i] w fun e w' => e = .returned (.bool (isP i)) ∧ w' = w := by
  go_enter Tryz.func47, Tryz.ntmps47
  cases h1 : decide (0 ≤ i) <;> cases h2 : decide (i < 256) <;> (go_wp2; go_ret; exact ⟨by simp [isP, h1, h2], rfl⟩)
theorem there_w (lo n : Nat) (m : Mp) (D : Dv) (I : Si) (S : St) (i : Int) (w : World) (k : SAt w lo n m D I S) (hi : Fits i) :
    Calls Tryz.prog 59 #[ptr I.s, .int .i64 i] w fun e w' => e = .returned (.bool (S.there i)) ∧ w' = w := by
  obtain ⟨c0, c1, c2, c3, c4, c5, c6, c7, fz⟩ := k.c
  obtain ⟨ka, ha⟩ := k.at_
  obtain ⟨ko, ho⟩ := k.now
  have l4 := ha.look hi
  have hfl : ∀ (r : Int × Nat) w, (Instr.field 111 (refV r) 0).run Tryz.prog w = .ok (.int .i64 r.1) w := fun r w => by kernel_rfl
  unfold St.there
  cases hN : S.now i with
  | none =>
    have l5 := ho.ok_none hi hN
    have hd := fun w => hfl ((S.at_ i).getD (0, 0)) w
    generalize (S.at_ i).getD (0, 0) = r at *
    clear ha ho k hN
    go_enter Tryz.func59, Tryz.ntmps59
    go_wp2
    go_ret
    exact ⟨rfl, rfl⟩
  | some l =>
    cases l with
    | nil =>
      have l5 := ho.ok_nil hi hN
      clear ha ho k hN l4
      go_enter Tryz.func59, Tryz.ntmps59
      go_wp2
      go_ret
      exact ⟨rfl, rfl⟩
    | cons x l =>
      obtain ⟨g, cap, l5, _, _⟩ := ho.ok_some hi hN
      have hd : decide ((0 : Int) < ((l.length + 1 : Nat) : Int)) = true := decide_eq_true (by omega)
      have hd2 : decide (0 < (x :: l).length) = true := decide_eq_true (by simp)
      obtain ⟨q, hq⟩ : ∃ q, q = l.length + 1 := ⟨_, rfl⟩
      rw [← hq] at l5 hd
      have hd3 : decide (0 < q) = true := decide_eq_true (by omega)
      clear ha ho k hN l4 hq hd
      simp only [hd2]
      go_enter Tryz.func59, Tryz.ntmps59
      go_wp2
      go_ret
      exact ⟨rfl, rfl⟩
/-- the pages below k -/
def psOf (S : St) (k : Nat) : List Nat := (List.range k).filter fun (p : Nat) => S.there (p : Int)
theorem psOf_succ (S : St) (k : Nat) : psOf S (k + 1) = psOf S k ++ (if S.there (k : Int) then [k] else []) := by
  unfold psOf
  rw [List.range_succ, List.filter_append]
  cases h : S.there (k : Int) <;> simp [h]
theorem psOf_le (S : St) (k : Nat) : (psOf S k).length ≤ k := by
  unfold psOf
  have := List.length_filter_le (fun (p : Nat) => S.there (p : Int)) (List.range k)
  simpa using this
set_option maxHeartbeats 3200000 in
theorem pages_w (lo n : Nat) (m : Mp) (D : Dv) (I : Si) (S : St) (w : World) (k : SAt w lo n m D I S) :
    Calls Tryz.prog 45 #[ptr I.s] w fun e w' => (∃ a c, e = .returned (.slice a (psOf S 256).length c) ∧ Nums .i64 w' a (psOf S 256).length c (psOf S 256)) ∧ Below w.heap.size w w' := by
  have HK := hid k
  have HS := hid (psOf_succ S)
  have HL := hid (psOf_le S)
  have h0 : psOf S 0 = [] := rfl
  generalize hps : psOf S = ps at *
  clear k hps
  go_enter Tryz.func45, Tryz.ntmps45
  go_wp2
  go_loopw [3, 5] (fun v i wr => ∃ j : Nat, j ≤ 256 ∧ i = .int .i64 j ∧ wr.ownsRow w.heap.size 3 1 v (ps j).length (nums .i64 (ps j)) ∧ Below w.heap.size w wr) (fun _ i _ => 256 - (RowKit.intOf i).toNat)
  case atStart => exact ⟨0, by omega, rfl, by rw [h0]; exact World.ownsRow_nil _ _ _ _, Below.refl _ _⟩
  case round =>
    obtain ⟨j, hj, rfl, own, hb⟩ := hrel
    have HB := hid hb
    by_cases hlt : j < 256
    · have ht := there_w lo n m D I S j wr (HK.out.below hb) (by unfold Fits; omega)
      have hs := HS.out j
      have hle := HL.out j
      obtain ⟨va, vc, rfl, hvr⟩ := ownsRow_slice own
      cases hc : S.there (j : Int) with
      | false =>
        rw [hc] at hs ht
        have hs' : ps (j + 1) = ps j := by rw [hs]; simp
        clear hb hle hc hvr hs
        go_wp2_with (refine ht.mono ?_; rintro e w' ⟨rfl, rfl⟩)
        go_roundw
        case rel => exact ⟨j + 1, by omega, by go_num, by rw [hs']; exact own, HB.out⟩
        case measure => simp [RowKit.intOf]; omega
      | true =>
        rw [hc] at hs ht
        have hs' : ps (j + 1) = ps j ++ [j] := by rw [hs]; simp
        have HS' := hid hs'
        have hz := hb.size
        clear hc hvr hs hs' hb
        go_wp2_with fail
        refine ht.mono ?_
        rintro e w' ⟨rfl, rfl⟩
        go_wp2_with (at_builtin; go_must (refine wpList_push elInt rfl _ _ rfl w.heap.size _ _ _ rfl (own.alloc _) w'.heap.size (.int .i64 (j : Int)) rfl (by simp) rfl (by unfold maxLen; omega) (by omega) (by simp; omega) ?_); intro v3 w3 o3 hb3 hg3)
        go_roundw
        case rel => exact ⟨j + 1, by omega, by go_num, by rw [HS'.out, List.length_append]; simpa [nums] using o3, HB.out.trans (((Below.refl _ _).alloc hz _).trans hb3)⟩
        case measure => simp [RowKit.intOf]; omega
    · obtain rfl : j = 256 := by omega
      obtain ⟨va, vc, rfl, hvr⟩ := ownsRow_slice own
      go_wp2
      go_ret
      exact ⟨⟨va, vc, rfl, hvr⟩, HB.out⟩
theorem changed_w (lo n : Nat) (m : Mp) (D : Dv) (I : Si) (S : St) (w : World) (k : SAt w lo n m D I S) (hd : ∀ i, (S.now i).isSome = true → 0 ≤ i ∧ i < 256) :
    Calls Tryz.prog 28 #[ptr I.s] w fun e w' => e = .returned (.int .i64 (cnt S.now : Nat)) ∧ w' = w := by
  obtain ⟨c0, c1, c2, c3, c4, c5, c6, c7, fz⟩ := k.c
  obtain ⟨ko, ho⟩ := k.now
  have e := ho.cnt hd
  subst e
  obtain ⟨E, hE, hnp⟩ := ho.len
  have hl := hE.len Tryz.underlying91 3
  rw [hnp] at hl
  clear k ho hE hnp
  go_enter Tryz.func28, Tryz.ntmps28
  go_wp2
  go_ret
  exact ⟨rfl, rfl⟩
theorem epoch_w (lo n : Nat) (m : Mp) (D : Dv) (I : Si) (S : St) (w : World) (k : SAt w lo n m D I S) :
    Calls Tryz.prog 21 #[ptr I.s] w fun e w' => e = .returned (.int .i64 S.ep) ∧ w' = w := by
  obtain ⟨c0, c1, c2, c3, c4, c5, c6, c7, fz⟩ := k.c
  clear k
  go_enter Tryz.func21, Tryz.ntmps21
  go_wp2
  go_ret
  exact ⟨rfl, rfl⟩
/-- a store with another map of changes -/
theorem SAt.fresh {w : World} {lo n : Nat} {m : Mp} {D : Dv} {I : Si} {S : St} (k : SAt w lo n m D I S) {w1 : World} (h1 : Below w.heap.size w w1) {o' k' : Nat} (ho : NowMap w1 lo o' n (fun _ => none) k') (hlo : w.heap.size ≤ o') :
    SAt (w1.setCell ⟨I.s, 6, none⟩ (.map (some o'))) lo n m D { I with o := o' } { S with now := fun _ => none } ∧ Turn [I.s] w (w1.setCell ⟨I.s, 6, none⟩ (.map (some o'))) := by
  have k1 := k.below h1
  have hsz := h1.size
  obtain ⟨n1, n2, n3, n4, n5⟩ := k.ne
  obtain ⟨ka, ha⟩ := k1.at_
  have hlt := k.own_lt
  have hbl := ho.block
  have ht : Turn [I.s] w1 (w1.setCell ⟨I.s, 6, none⟩ (.map (some o'))) := Turn.setCell w1 I.s 6 _ (by simp)
  have htx := k1.tx
  have hc := k1.cells
  have hnu : ∀ x ∈ [I.s], ∀ off z, w1.cell? ⟨x, off, none⟩ ≠ some (.int .u8 z) := fun x hx => k1.nou8 x (by rw [List.mem_singleton.1 hx]; simp)
  refine ⟨⟨k1.pr.away ht (fun x hx => ?_) (fun x hx => .inr ?_), ?_, refs_turn k1.refs ht fun b o e hm => ?_, refs_turn k1.tabs ht fun b o e hm => ?_, ⟨ka, ref_turn ha ht (by simpa using fun e => n2 e.symm)⟩, ⟨k', now_turn ho ht (by have := k.slt; simp; omega) hnu⟩, ?_, k1.sx, k1.ax, ?_, fun b off e => ?_, ?_, ⟨k1.slo.1, k1.slo.2.1, ?_⟩⟩, (Turn.of_below h1).then ht⟩
  · rw [List.mem_singleton.1 hx]
    intro hm
    rcases List.mem_cons.1 hm with e | hm
    · exact n1 e
    · exact k.sx hm
  · rw [List.mem_singleton.1 hx]
    exact ⟨_, k1.c.1, fun z e => by cases e⟩
  · simp [World.setCell, Array.getElem?_modify, hc]
  · have h2 := (k1.rx b o e).2
    rw [List.mem_singleton.1 hm] at h2
    simp at h2
  · cases e
    rw [List.mem_singleton.1 hm] at htx
    simp at htx
  · have := hlt I.a (by simp)
    show I.a ≠ o'
    omega
  · intro hm
    have := hlt o' (by simp only [List.mem_cons]; exact .inr (.inr (.inr (.inr (List.mem_cons.1 hm)))))
    omega
  · obtain ⟨h3, h4⟩ := k.rx b off e
    refine ⟨by have := ht.size; omega, ?_⟩
    simp only [List.mem_cons, not_or] at h4 ⊢
    obtain ⟨q1, q2, q3, q4, q5⟩ := h4
    exact ⟨q1, q2, q3, by omega, q5⟩
  · have h3 : I.tb < w.heap.size := by
      obtain ⟨b', o', e, hc, _⟩ := k.tabs.at (j := 0) (by rw [k.tabs.len]; decide)
      cases e
      exact World.block_lt_of_cell? _ _ hc
    have h4 := k.tx
    simp only [List.mem_cons, not_or] at h4 ⊢
    obtain ⟨q1, q2, q3, q4, q5⟩ := h4
    exact ⟨q1, q2, q3, by omega, q5⟩
  · have := k.own_lo I.s (by simp)
    have := k.slt
    show lo ≤ o'
    omega
end Go.Proofs.YtbjfgdahfpfgdaaGreatDoor.PgW

namespace Go.Proofs.YtbjfgdahfpfgdaaGreatDoor.PgW
open Go Go.RowKit Go.Maps Go.Proofs.YtbjfgdahfpfgdaaGreatDoor.Mem Go.Proofs.YtbjfgdahfpfgdaaGreatDoor.MapsW Go.Proofs.YtbjfgdahfpfgdaaGreatDoor.SeeW Go.Proofs.YtbjfgdahfpfgdaaGreatDoor.DevG Go.Proofs.YtbjfgdahfpfgdaaGreatDoor.PairG Go.Proofs.YtbjfgdahfpfgdaaGreatDoor.RefsW Go.Proofs.YtbjfgdahfpfgdaaGreatDoor.PgP
set_option linter.unusedVariables false
set_option maxRecDepth 100000

/-- the errors of a store -/
abbrev seven : List Nat := [1, 2, 3, 4, 5, 6, 8]
/-- a page is written: what is told, what the store has then -/
def St.put (S : St) (p : Int) (l : List Nat) : Option Nat × St :=
  if isP p = false then (some 2, S) else if l.length < 1 ∨ 248 < l.length then (some 1, S) else (none, { S with now := upd S.now p (some l) })
def St.drop (S : St) (p : Int) : Option Nat × St :=
  if isP p = false then (some 2, S) else if S.there p then (none, { S with now := upd S.now p (some []) }) else (none, S)
theorem row1 {w : World} {base : Nat} {v : Value} {n : Nat} {l : List Nat} (h : w.ownsRow base 5 1 v n (nums .u8 l)) (hn : 0 < n) : ∃ g cap, v = .slice (some ⟨g, 0, none⟩) n cap ∧ Nums .u8 w (some ⟨g, 0, none⟩) n cap l ∧ base ≤ g := by
  obtain ⟨a, cap, rfl, hr⟩ := ownsRow_slice h
  obtain ⟨g, rfl⟩ := own_some h hn
  exact ⟨g, cap, rfl, hr, (h.lt g rfl).1⟩
theorem isP_fits {p : Int} (h : isP p = true) : 0 ≤ p ∧ p < 256 ∧ Fits p := by
  unfold isP at h
  simp only [Bool.and_eq_true, decide_eq_true_eq] at h
  exact ⟨h.1, h.2, by unfold Fits; omega⟩
set_option maxHeartbeats 1600000 in
theorem write_w (bs : List Addr) (lo n : Nat) (m : Mp) (D : Dv) (I : Si) (S : St) (p : Int) (a : Option Addr) (cap : Nat) (l : List Nat) (w : World) (k : SAt w lo n m D I S) (hB : Ev w lo bs seven) (hf : Fits p) (hl : Nums .u8 w a l.length cap l) (hn : n < 1000000) :
    Calls Tryz.prog 15 #[ptr I.s, .int .i64 p, .slice a l.length cap] w fun e w' => (∃ v, Says bs (St.put S p l).1 v ∧ e = .returned v) ∧ SAt w' lo (n + 1) m D I (St.put S p l).2 ∧ Turn [I.o] w w' := by
  obtain ⟨a2, h2, hA2⟩ := hB.get 2 _ (by decide) rfl
  obtain ⟨a1, h1, hA1⟩ := hB.get 1 _ (by decide) rfl
  obtain ⟨x2, _, _, _⟩ := hA2
  obtain ⟨x1, _, _, _⟩ := hA1
  have hb := hl.bound
  unfold St.put
  cases hp : isP p with
  | false =>
    have hi := is_w p w
    rw [hp] at hi
    have HK := hid (k.mono (n' := n + 1) (by omega))
    clear k hl hB
    go_enter Tryz.func15, Tryz.ntmps15
    go_wp2_with fail
    refine hi.mono ?_
    rintro e w' ⟨rfl, rfl⟩
    go_wp2_with fail
    go_ret
    exact ⟨⟨_, ⟨a2, h2, rfl⟩, rfl⟩, HK.out, Turn.refl _ _⟩
  | true =>
    have hi := is_w p w
    rw [hp] at hi
    by_cases hs : l.length < 1 ∨ 248 < l.length
    · rw [if_neg (by simp), if_pos hs]
      have HK := hid (k.mono (n' := n + 1) (by omega))
      clear k hl hB
      go_enter Tryz.func15, Tryz.ntmps15
      rcases Nat.lt_or_ge l.length 1 with h0 | h0
      · have d1 : decide ((l.length : Int) < 1) = true := decide_eq_true (by omega)
        go_wp2_with fail
        refine hi.mono ?_
        rintro e w' ⟨rfl, rfl⟩
        go_wp2_with fail
        go_ret
        exact ⟨⟨_, ⟨a1, h1, rfl⟩, rfl⟩, HK.out, Turn.refl _ _⟩
      · have d1 : decide ((l.length : Int) < 1) = false := decide_eq_false (by omega)
        have d2 : decide ((248 : Int) < (l.length : Int)) = true := decide_eq_true (by omega)
        go_wp2_with fail
        refine hi.mono ?_
        rintro e w' ⟨rfl, rfl⟩
        go_wp2_with fail
        go_ret
        exact ⟨⟨_, ⟨a1, h1, rfl⟩, rfl⟩, HK.out, Turn.refl _ _⟩
    · rw [if_neg (by simp), if_neg hs]
      have d1 : decide ((l.length : Int) < 1) = false := decide_eq_false (by omega)
      have d2 : decide ((248 : Int) < (l.length : Int)) = false := decide_eq_false (by omega)
      obtain ⟨y, l', rfl⟩ : ∃ y l', l = y :: l' := by
        cases l with
        | nil => exact absurd (.inl (by simp)) hs
        | cons y l' => exact ⟨y, l', rfl⟩
      have hlo := k.own_lo I.s (by simp)
      have hsl := k.slt
      have c6 := k.c.2.2.2.2.2.2.1
      have hq2 : l'.length + 1 ≤ 248 := by
        have : ¬ 248 < (y :: l').length := fun e => hs (.inr e)
        simpa using this
      clear hB hs
      rw [List.length_cons] at hl d1 d2 hb ⊢
      have hst := fun (w : World) (base b n k : Nat) (F : Int → Option (List Nat)) (h : NowMap w base b n F k) (hn : n < 1000000) (g cap : Nat) (hl : Nums .u8 w (some ⟨g, 0, none⟩) (l'.length + 1) cap (y :: l')) (hbg : base ≤ g) => h.store hn hf hl hbg
      obtain ⟨q, hq⟩ : ∃ q, q = l'.length + 1 := ⟨_, rfl⟩
      rw [← hq] at hl d1 d2 hb hq2 ⊢
      simp only [← hq] at hst
      have hq1 : 1 ≤ q := by omega
      clear hq
      go_enter Tryz.func15, Tryz.ntmps15
      go_wp2_with fail
      refine hi.mono ?_
      rintro e w' ⟨rfl, rfl⟩
      go_wp2_with fail
      go_region_held3 (fun w' => w'.cell? ⟨I.s, 6, none⟩ = some (.map (some I.o))) (first | exact c6 | exact z3 | exact z4 | go_keep)
        ((go_at_call 48; refine (RefW.clone_w a q cap (y :: l') _ (Nums.below hl (below_drewN (Below.refl _ _) _)) (by omega)).mono ?_; rintro e w3 ⟨v, rfl, own3, hb3⟩; obtain ⟨g, gc, rfl, hg, hgb⟩ := row1 own3 hq1; have hgb' : w'.heap.size ≤ g := hgb; have k3 := (SAt.below k (below_drewN (Below.refl _ _) 1)).below hb3; obtain ⟨ko, ho⟩ := k3.now; obtain ⟨w4, hrun, hr4, hg4⟩ := hst _ _ _ _ _ _ ho hn _ _ hg (by omega); have z3 := k3.c.2.2.2.2.2.2.1; have k4 := k3.putO hr4 hg4; have z4 := k4.c.2.2.2.2.2.2.1))
      have hT : Turn [I.o] w' w4 := ((Turn.of_below (below_drewN (Below.refl _ w') 1)).then (Turn.of_below hb3)).then (Turn.of_grown hg4 (by simp))
      have H4 := hid k4
      clear k4 k3 ho k hr4 hg4 hrun hg hgb hgb' own3 hb3 hl z3 z4 c6
      go_wp2
      go_ret
      exact ⟨⟨_, rfl, rfl⟩, H4.out, hT⟩
set_option maxHeartbeats 1600000 in
theorem drop_w (bs : List Addr) (lo n : Nat) (m : Mp) (D : Dv) (I : Si) (S : St) (p : Int) (w : World) (k : SAt w lo n m D I S) (hB : Ev w lo bs seven) (hf : Fits p) (hn : n < 1000000) :
    Calls Tryz.prog 26 #[ptr I.s, .int .i64 p] w fun e w' => (∃ v, Says bs (St.drop S p).1 v ∧ e = .returned v) ∧ SAt w' lo (n + 1) m D I (St.drop S p).2 ∧ Turn [I.o] w w' := by
  obtain ⟨a2, h2, hA2⟩ := hB.get 2 _ (by decide) rfl
  obtain ⟨x2, _, _, _⟩ := hA2
  unfold St.drop
  have hi := is_w p w
  cases hp : isP p with
  | false =>
    rw [hp] at hi
    have HK := hid (k.mono (n' := n + 1) (by omega))
    clear k hB
    go_enter Tryz.func26, Tryz.ntmps26
    go_wp2_with fail
    refine hi.mono ?_
    rintro e w' ⟨rfl, rfl⟩
    go_wp2_with fail
    go_ret
    exact ⟨⟨_, ⟨a2, h2, rfl⟩, rfl⟩, HK.out, Turn.refl _ _⟩
  | true =>
    rw [hp] at hi
    have ht := there_w lo n m D I S p w k hf
    cases hT : S.there p with
    | false =>
      rw [hT] at ht
      have HK := hid (k.mono (n' := n + 1) (by omega))
      clear k hB
      go_enter Tryz.func26, Tryz.ntmps26
      go_wp2_with fail
      refine hi.mono ?_
      rintro e w' ⟨rfl, rfl⟩
      go_wp2_with fail
      refine ht.mono ?_
      rintro e w'' ⟨rfl, hww⟩
      subst hww
      go_wp2_with fail
      go_ret
      exact ⟨⟨_, rfl, rfl⟩, HK.out, Turn.refl _ _⟩
    | true =>
      rw [hT] at ht
      obtain ⟨ko, ho⟩ := k.now
      obtain ⟨w4, hrun, hr4, hg4⟩ := ho.storeNil hn hf
      have c6 := k.c.2.2.2.2.2.2.1
      have H4 := hid (k.putO hr4 hg4)
      have T4 : Turn [I.o] w w4 := Turn.of_grown hg4 (by simp)
      have HT := hid T4
      clear k hB ho hr4 hg4 T4
      go_enter Tryz.func26, Tryz.ntmps26
      go_wp2_with fail
      refine hi.mono ?_
      rintro e w' ⟨rfl, hw1⟩
      rw [hw1]
      clear hw1
      go_wp2_with fail
      refine ht.mono ?_
      rintro e w'' ⟨rfl, hww⟩
      rw [hww]
      clear hww
      go_wp2
      go_ret
      exact ⟨⟨_, rfl, rfl⟩, H4.out, HT.out⟩
end Go.Proofs.YtbjfgdahfpfgdaaGreatDoor.PgW

namespace Go.Proofs.YtbjfgdahfpfgdaaGreatDoor.PairG
open Go Go.RowKit Go.Maps Go.Proofs.YtbjfgdahfpfgdaaGreatDoor.Mem Go.Proofs.YtbjfgdahfpfgdaaGreatDoor.MapsW Go.Proofs.YtbjfgdahfpfgdaaGreatDoor.SeeW Go.Proofs.YtbjfgdahfpfgdaaGreatDoor.DevG
set_option linter.unusedVariables false
set_option maxRecDepth 100000

/-- what Mend gives: how many, or that it can't be; the device then; how many were mended -/
def MendTo (bs : List Addr) (w : World) (lo d n : Nat) (m : Mp) (p h : Nat) (r : Option Nat) (D' : Dv) (c' : Nat) (e : Ending) (w' : World) : Prop :=
  (match r with
    | some k => e = .returned (.tuple #[.int .i64 k, .nilIface])
    | none => ∃ a, bs[6]? = some a ∧ e = .returned (.tuple #[.int .i64 0, ev a])) ∧ PAt w' lo d (n + 1) m D' p h c' ∧ Turn (p :: own d m) w w'

set_option maxHeartbeats 3200000 in
theorem mend_both (bs : List Addr) (lo d n : Nat) (m : Mp) (D : Dv) (p h c : Nat) (i s : Nat) (w : World) (k : PAt w lo d n m D p h c) (hB : Ev w lo bs five) (hi : i < h) (hbt : ∀ j l, D.read j = some l → Crc.Bytes l) (r1 : right D i s = true) (r2 : right D (i + h) s = true) :
    Calls Tryz.prog 76 #[ptr p, Rf i s] w (MendTo bs w lo d n m p h (some 0) D c) := by
  have hhf := k.half
  have hmo := k.most
  have hf : Fits (i : Int) := fits_nat (by omega)
  have hd : decide (0 ≤ (i : Int) ∧ (i : Int) < h) = true := by rw [decide_eq_true_eq]; omega
  have bx := (Below.refl w.heap.size w).alloc (Nat.le_refl _) (.cells #[.int .i64 i, .int .u32 s] 111)
  obtain ⟨q0, q1⟩ := new2 w (.int .i64 i) (.int .u32 s) 111
  have kx := k.below bx
  have f1 : IntKind.i64.wrap ((i : Int) + (h : Int)) = ((i + h : Nat) : Int) := by rw [IntKind.wrap_i64]; omega
  have o1 := fun w k hB => one_any bs lo d n m D p h c i s w k hB (by omega) hbt
  have o2 := fun w k hB => one_any bs lo d n m D p h c (i + h) s w k hB (by omega) hbt
  rw [r1] at o1
  rw [r2] at o2
  go_enter Tryz.func76, Tryz.ntmps76
  go_wp2_with fail
  refine (is_w lo d n m D p h c i _ kx hf).mono ?_
  rintro e w' ⟨rfl, rfl⟩
  rw [hd]
  go_wp2_with fail
  refine (o1 _ kx (hB.below bx)).mono ?_
  rintro e w1 ⟨⟨a1, n1, cp1, rfl, _⟩, hb1⟩
  have k1 := kx.below hb1
  have hB1 := (hB.below bx).below hb1
  replace q0 := kept hb1 q0
  replace q1 := kept hb1 q1
  have hb01 : Below w.heap.size w w1 := bx.trans (hb1.mono (by simp))
  obtain ⟨c0, c1, c2, c3, f3⟩ := k1.c
  clear k kx bx hb1
  go_wp2_with fail
  go_region_held3 (fun w' => w'.cell? ⟨w.heap.size, 0, none⟩ = some (.int .i64 i) ∧ w'.cell? ⟨w.heap.size, 1, none⟩ = some (.int .u32 s) ∧ w'.cell? ⟨p, 2, none⟩ = some (.int .i64 h)) (first | exact ⟨q0, q1, c2⟩ | exact ⟨y0, y1, y2⟩ | go_keep)
    ((go_at_call 99; refine (o2 _ (k1.below (below_drewN (Below.refl _ _) 1)) (hB1.below (below_drewN (Below.refl _ _) 1))).mono ?_; rintro e w2 ⟨⟨a2, n2, cp2, rfl, _⟩, hb2⟩; have y0 := kept hb2 q0; have y1 := kept hb2 q1; have y2 := kept hb2 c2))
  have k2 := (k1.below (below_drewN (Below.refl _ _) 1)).below hb2
  have hb02 : Below w.heap.size w w2 := (below_drewN hb01 1).trans (hb2.mono hb01.size)
  go_wp2
  refine bodyPost_ret (v := .tuple #[.int .i64 0, .nilIface]) (by simp [results, Tryz.results76, go_sem]) rfl ⟨rfl, k2.mono (by omega) (Nat.le_refl _), Turn.of_below hb02⟩

set_option maxHeartbeats 3200000 in
theorem mend_second (bs : List Addr) (lo d n : Nat) (m : Mp) (D : Dv) (p h c : Nat) (i s : Nat) (w : World) (k : PAt w lo d n m D p h c) (hB : Ev w lo bs five) (hi : i < h) (hbt : ∀ j l, D.read j = some l → Crc.Bytes l) (r1 : right D i s = false) (r2 : right D (i + h) s = true) {l : List Nat} (hl : D.read (i + h : Nat) = some l) (hn : n < 850000) (hc : D.calls < 1000000) (hc2 : c < 1000000) :
    Calls Tryz.prog 76 #[ptr p, Rf i s] w (MendTo bs w lo d n m p h (some 1) (D.put i l) (c + 1)) := by
  have hhf := k.half
  have hmo := k.most
  have hf : Fits (i : Int) := fits_nat (by omega)
  have hd : decide (0 ≤ (i : Int) ∧ (i : Int) < h) = true := by rw [decide_eq_true_eq]; omega
  have bx := (Below.refl w.heap.size w).alloc (Nat.le_refl _) (.cells #[.int .i64 i, .int .u32 s] 111)
  obtain ⟨q0, q1⟩ := new2 w (.int .i64 i) (.int .u32 s) 111
  have kx := k.below bx
  have f1 : IntKind.i64.wrap ((i : Int) + (h : Int)) = ((i + h : Nat) : Int) := by rw [IntKind.wrap_i64]; omega
  have o1 := fun w k hB => one_any bs lo d n m D p h c i s w k hB (by omega) hbt
  have o2 := fun w k hB => one_any bs lo d n m D p h c (i + h) s w k hB (by omega) hbt
  rw [r1] at o1
  rw [r2] at o2
  go_enter Tryz.func76, Tryz.ntmps76
  go_wp2_with fail
  refine (is_w lo d n m D p h c i _ kx hf).mono ?_
  rintro e w' ⟨rfl, rfl⟩
  rw [hd]
  go_wp2_with fail
  refine (o1 _ kx (hB.below bx)).mono ?_
  rintro e w1 ⟨⟨a1, n1, cp1, rfl, _⟩, hb1⟩
  have k1 := kx.below hb1
  have hB1 := (hB.below bx).below hb1
  replace q0 := kept hb1 q0
  replace q1 := kept hb1 q1
  have hb01 : Below w.heap.size w w1 := bx.trans (hb1.mono (by simp))
  obtain ⟨c0, c1, c2, c3, f3⟩ := k1.c
  clear k kx bx hb1
  go_wp2_with fail
  go_region_held3 (fun w' => w'.cell? ⟨w.heap.size, 0, none⟩ = some (.int .i64 i) ∧ w'.cell? ⟨w.heap.size, 1, none⟩ = some (.int .u32 s) ∧ w'.cell? ⟨p, 2, none⟩ = some (.int .i64 h)) (first | exact ⟨q0, q1, c2⟩ | exact ⟨y0, y1, y2⟩ | go_keep)
    ((go_at_call 99; refine (o2 _ (k1.below (below_drewN (Below.refl _ _) 1)) (hB1.below (below_drewN (Below.refl _ _) 1))).mono ?_; rintro e w2 ⟨⟨a2, n2, cp2, rfl, hgl⟩, hb2⟩; obtain ⟨g, l', rfl, rfl, hn2, hl', hg⟩ := hgl trivial; have y0 := kept hb2 q0; have y1 := kept hb2 q1; have y2 := kept hb2 c2))
  have k2 := (k1.below (below_drewN (Below.refl _ _) 1)).below hb2
  have hb02 : Below w.heap.size w w2 := (below_drewN hb01 1).trans (hb2.mono hb01.size)
  rw [hl] at hl'
  cases hl'
  go_wp2_with fail
  refine (mend_w lo d n m D p h c i _ cp2 l _ k2 (by omega) hn2 (by omega) hc hc2).mono ?_
  rintro e w3 ⟨rfl, k3, t3⟩
  go_wp2
  refine bodyPost_ret (v := .tuple #[.int .i64 1, .nilIface]) (by simp [results, Tryz.results76, go_sem]) rfl ⟨rfl, k3, (Turn.of_below hb02).then t3⟩

set_option maxHeartbeats 3200000 in
theorem mend_first (bs : List Addr) (lo d n : Nat) (m : Mp) (D : Dv) (p h c : Nat) (i s : Nat) (w : World) (k : PAt w lo d n m D p h c) (hB : Ev w lo bs five) (hi : i < h) (hbt : ∀ j l, D.read j = some l → Crc.Bytes l) (r1 : right D i s = true) (r2 : right D (i + h) s = false) {l : List Nat} (hl : D.read i = some l) (hn : n < 850000) (hc : D.calls < 1000000) (hc2 : c < 1000000) :
    Calls Tryz.prog 76 #[ptr p, Rf i s] w (MendTo bs w lo d n m p h (some 1) (D.put (i + h : Nat) l) (c + 1)) := by
  have hhf := k.half
  have hmo := k.most
  have hf : Fits (i : Int) := fits_nat (by omega)
  have hd : decide (0 ≤ (i : Int) ∧ (i : Int) < h) = true := by rw [decide_eq_true_eq]; omega
  have bx := (Below.refl w.heap.size w).alloc (Nat.le_refl _) (.cells #[.int .i64 i, .int .u32 s] 111)
  obtain ⟨q0, q1⟩ := new2 w (.int .i64 i) (.int .u32 s) 111
  have kx := k.below bx
  have f1 : IntKind.i64.wrap ((i : Int) + (h : Int)) = ((i + h : Nat) : Int) := by rw [IntKind.wrap_i64]; omega
  have o1 := fun w k hB => one_any bs lo d n m D p h c i s w k hB (by omega) hbt
  have o2 := fun w k hB => one_any bs lo d n m D p h c (i + h) s w k hB (by omega) hbt
  rw [r1] at o1
  rw [r2] at o2
  go_enter Tryz.func76, Tryz.ntmps76
  go_wp2_with fail
  refine (is_w lo d n m D p h c i _ kx hf).mono ?_
  rintro e w' ⟨rfl, rfl⟩
  rw [hd]
  go_wp2_with fail
  refine (o1 _ kx (hB.below bx)).mono ?_
  rintro e w1 ⟨⟨a1, n1, cp1, rfl, hgl⟩, hb1⟩
  obtain ⟨g, l', rfl, rfl, hn1, hl', hg⟩ := hgl trivial
  rw [hl] at hl'
  cases hl'
  have k1 := kx.below hb1
  have hB1 := (hB.below bx).below hb1
  replace q0 := kept hb1 q0
  replace q1 := kept hb1 q1
  have hb01 : Below w.heap.size w w1 := bx.trans (hb1.mono (by simp))
  obtain ⟨c0, c1, c2, c3, f3⟩ := k1.c
  clear k kx bx hb1
  go_wp2_with fail
  go_region_held3 (fun w' => w'.cell? ⟨w.heap.size, 0, none⟩ = some (.int .i64 i) ∧ w'.cell? ⟨w.heap.size, 1, none⟩ = some (.int .u32 s) ∧ w'.cell? ⟨p, 2, none⟩ = some (.int .i64 h)) (first | exact ⟨q0, q1, c2⟩ | exact ⟨y0, y1, y2⟩ | go_keep)
    ((go_at_call 99; refine (o2 _ (k1.below (below_drewN (Below.refl _ _) 1)) (hB1.below (below_drewN (Below.refl _ _) 1))).mono ?_; rintro e w2 ⟨⟨a2, n2, cp2, rfl, _⟩, hb2⟩; have y0 := kept hb2 q0; have y1 := kept hb2 q1; have y2 := kept hb2 c2))
  have k2 := (k1.below (below_drewN (Below.refl _ _) 1)).below hb2
  have hb02 : Below w.heap.size w w2 := (below_drewN hb01 1).trans (hb2.mono hb01.size)
  have hn2 := (hn1.below (below_drewN (Below.refl _ _) 1)).below hb2
  have hws : w.heap.size < w2.heap.size := World.block_lt_of_cell? _ _ y0
  have hwp : w.heap.size ≠ p := by
    rintro rfl
    have := k2.c.1
    rw [y0] at this
    cases this
  have hwd : w.heap.size ≠ d := by
    intro e
    have := k2.dev.c.1
    have h3 := k2.dev.c.2.1
    rw [← e, y1] at h3
    cases h3
  obtain ⟨cc, ct, cf, hcc⟩ := cell_cells y0
  have hout := k2.dev.out hcc hwd
  have cc2 := k2.c.2.2.1
  go_wp2_with fail
  go_region_held3 (fun w' => w'.cell? ⟨w.heap.size, 0, none⟩ = some (.int .i64 i) ∧ w'.cell? ⟨p, 2, none⟩ = some (.int .i64 h)) (first | exact ⟨y0, y2⟩ | exact ⟨z0, z2⟩ | go_keep)
    ((go_at_call 100; refine (mend_w lo d n m D p h c (i + h) _ cp1 l _ (k2.below (below_drewN (Below.refl _ _) 1)) (by omega) (hn2.below (below_drewN (Below.refl _ _) 1)) (by omega) hc hc2).mono ?_; rintro e w3 ⟨rfl, k3, t3⟩; have hbl := t3.block w.heap.size (by exact hws) (by
        intro hm
        rcases List.mem_cons.1 hm with e | hm
        · exact hwp e
        · exact hout hm); have z0 : w3.cell? ⟨w.heap.size, 0, none⟩ = some (.int .i64 i) := (World.cell?_of_block (w := w2) hbl).trans y0; have z2 := k3.c.2.2.1))
  have hT := (Turn.of_below (S := p :: own d m) (below_drewN hb02 1)).then t3
  go_wp2
  refine bodyPost_ret (v := .tuple #[.int .i64 1, .nilIface]) (by simp [results, Tryz.results76, go_sem]) rfl ⟨rfl, k3, hT⟩
end Go.Proofs.YtbjfgdahfpfgdaaGreatDoor.PairG

namespace Go.Proofs.YtbjfgdahfpfgdaaGreatDoor.DevG
open Go Go.Maps Go.Proofs.YtbjfgdahfpfgdaaGreatDoor.MapsW

/-- a block's bytes -/
def Blk (l : List Nat) : Prop := Crc.Bytes l ∧ l.length = 256
structure Ok (D : Dv) : Prop where
  fl : ∀ j l, D.fl j = some l → Blk l
  pe : ∀ j l, D.pe j = some l → Blk l
theorem Ok.new (b : Nat) : Ok (Dv.new b) := ⟨fun j l h => (by cases h), fun j l h => (by cases h)⟩
theorem Ok.put {D : Dv} (h : Ok D) {i : Int} {l : List Nat} (hl : Blk l) : Ok (D.put i l) := by
  refine ⟨h.fl, fun j l' hj => ?_⟩
  by_cases e : j = i
  · subst e
    rw [show (D.put j l).pe j = some l from upd_same _ _ _] at hj
    cases hj
    exact hl
  · rw [show (D.put i l).pe j = D.pe j from upd_other _ _ e] at hj
    exact h.pe j l' hj
theorem Ok.flush {D : Dv} (h : Ok D) : Ok D.flush := by
  refine ⟨fun j l hj => ?_, fun j l hj => (by cases hj)⟩
  change (if (D.pe j).isSome then D.pe j else D.fl j) = some l at hj
  split at hj
  · exact h.pe j l hj
  · exact h.fl j l hj
theorem Ok.kept {D : Dv} (h : Ok D) (i : Int) : Blk (keptOf D i) := by
  unfold keptOf
  cases hF : D.fl i with
  | none => exact ⟨Crc.zeros_bytes 256, List.length_replicate ..⟩
  | some l => exact h.fl i l hF
theorem Ok.spoil {D : Dv} (h : Ok D) (i at_ : Int) (t : Nat) : Ok (D.spoil i at_ t) := by
  unfold Dv.spoil
  split
  · refine ⟨fun j l hj => ?_, h.pe⟩
    change upd D.fl i (some _) j = some l at hj
    by_cases e : j = i
    · subst e
      rw [upd_same] at hj
      cases hj
      exact ⟨Crc.turned_bytes (h.kept j).1 at_ t, by rw [Crc.turned_length]; exact (h.kept j).2⟩
    · rw [upd_other _ _ e] at hj
      exact h.fl j l hj
  · exact h
theorem Ok.fail {D : Dv} (h : Ok D) (i : Int) : Ok (D.fail i) := by
  unfold Dv.fail
  split
  · exact ⟨h.fl, h.pe⟩
  · exact h
theorem Ok.read {D : Dv} (h : Ok D) {j : Int} {l : List Nat} (hj : D.read j = some l) : Blk l := by
  unfold Dv.read at hj
  cases hp : D.pe j with
  | some l' => rw [hp] at hj; cases hj; exact h.pe j _ hp
  | none =>
    rw [hp] at hj
    simp only at hj
    split at hj
    · cases hj
    · cases hj; exact h.kept j
/-- what is read where nothing is pending -/
theorem read_flushed {D : Dv} {j : Int} (hp : D.pe j = none) (hi : D.fi j = false) : D.read j = some (keptOf D j) := by
  unfold Dv.read; rw [hp]; simp only; rw [hi]; rfl
theorem read_pending {D : Dv} {j : Int} {l : List Nat} (hp : D.pe j = some l) : D.read j = some l := by
  unfold Dv.read; rw [hp]
theorem read_failed {D : Dv} {j : Int} (hp : D.pe j = none) (hi : D.fi j = true) : D.read j = none := by
  unfold Dv.read; rw [hp]; simp only; rw [hi]; rfl
end Go.Proofs.YtbjfgdahfpfgdaaGreatDoor.DevG

namespace Go.Proofs.YtbjfgdahfpfgdaaGreatDoor.PairG
open Go Go.RowKit Go.Maps Go.Proofs.YtbjfgdahfpfgdaaGreatDoor.Mem Go.Proofs.YtbjfgdahfpfgdaaGreatDoor.MapsW Go.Proofs.YtbjfgdahfpfgdaaGreatDoor.SeeW Go.Proofs.YtbjfgdahfpfgdaaGreatDoor.DevG
set_option linter.unusedVariables false
set_option maxRecDepth 100000

theorem kept_of {E : Dv} {i : Int} {l : List Nat} (h : E.fl i = some l) : keptOf E i = l := by unfold keptOf; rw [h]; rfl
/-- a copy of the bytes P: they are pending; or laid, and not faulted; or faulted, and told by the sum -/
def Cp (D : Dv) (q : Int) (P : List Nat) : Prop :=
  D.pe q = some P ∨ (D.pe q = none ∧ D.fa q = false ∧ keptOf D q = P ∧ D.fi q = false) ∨ (D.pe q = none ∧ D.fa q = true ∧ ∀ l, D.read q = some l → Crc.sum l ≠ Crc.sum P)
theorem read_of {D E : Dv} {q : Int} (h1 : E.pe q = D.pe q) (h2 : E.fi q = D.fi q) (h3 : E.fl q = D.fl q) : E.read q = D.read q := by
  unfold Dv.read keptOf
  rw [h1, h2, h3]
theorem Cp.same {D E : Dv} {q : Int} {P : List Nat} (h : Cp D q P) (h1 : E.pe q = D.pe q) (h2 : E.fi q = D.fi q) (h3 : E.fl q = D.fl q) (h4 : E.fa q = D.fa q) : Cp E q P := by
  have hk : keptOf E q = keptOf D q := by unfold keptOf; rw [h3]
  unfold Cp at *
  rw [read_of h1 h2 h3, h1, h2, hk, h4]
  exact h
theorem Cp.put_same (D : Dv) (q : Int) (P : List Nat) : Cp (D.put q P) q P := .inl (upd_same _ _ _)
theorem Cp.put_other {D : Dv} {q j : Int} {P : List Nat} (h : Cp D q P) (hne : q ≠ j) (l : List Nat) : Cp (D.put j l) q P :=
  h.same (upd_other _ _ hne) rfl rfl rfl
theorem Cp.put_again {D : Dv} {q j : Int} {P : List Nat} (h : Cp D q P) : Cp (D.put j P) q P := by
  by_cases e : q = j
  · subst e; exact Cp.put_same D q P
  · exact h.put_other e P
theorem Cp.flush {D : Dv} {q : Int} {P : List Nat} (h : Cp D q P) : Cp D.flush q P := by
  rcases h with h | ⟨h1, h2, h3, h4⟩ | ⟨h1, h2, h3⟩
  · refine .inr (.inl ⟨rfl, ?_, ?_, ?_⟩)
    · show (if (D.pe q).isSome then false else _) = _; rw [h]; rfl
    · exact kept_of (E := D.flush) (i := q) (l := P) (by show (if (D.pe q).isSome then D.pe q else _) = _; rw [h]; rfl)
    · show (if (D.pe q).isSome then false else _) = _; rw [h]; rfl
  · refine .inr (.inl ⟨rfl, ?_, ?_, ?_⟩)
    · show (if (D.pe q).isSome then false else _) = _; rw [h1]; exact h2
    · unfold keptOf; show ((if (D.pe q).isSome then D.pe q else D.fl q).getD _) = _; rw [h1]; exact h3
    · show (if (D.pe q).isSome then false else _) = _; rw [h1]; exact h4
  · refine .inr (.inr ⟨rfl, ?_, ?_⟩)
    · show (if (D.pe q).isSome then false else _) = _; rw [h1]; exact h2
    · rw [read_of (D := D) h1.symm (by show (if (D.pe q).isSome then false else _) = _; rw [h1]; rfl) (by show (if (D.pe q).isSome then D.pe q else _) = _; rw [h1]; rfl)]
      exact h3
theorem may_of {D : Dv} {i : Int} (h : D.may i = true) : D.pe i = none ∧ D.fa i = false := by
  unfold Dv.may at h
  rw [Bool.and_eq_true, Bool.and_eq_true] at h
  refine ⟨?_, by simpa using h.2.2⟩
  cases hp : D.pe i with
  | none => rfl
  | some l => rw [hp] at h; simp at h
theorem Cp.spoil {D : Dv} {q i : Int} {P : List Nat} (h : Cp D q P) (hP : Blk P) (a t : Nat) (ht : t < 4294967296) : Cp (D.spoil i a t) q P := by
  cases hm : D.mayS i a t with
  | false => rw [spoil_no hm]; exact h
  | true =>
    rw [spoil_yes hm]
    by_cases e : q = i
    · subst e
      unfold Dv.mayS at hm
      rw [Bool.and_eq_true, decide_eq_true_eq] at hm
      obtain ⟨m1, m2, m3⟩ := may_of hm.1, hm.2.1, hm.2.2
      obtain ⟨p1, p2⟩ := m1
      rcases h with h | ⟨h1, h2, h3, h4⟩ | ⟨h1, h2, h3⟩
      · rw [p1] at h; cases h
      · refine .inr (.inr ⟨h1, upd_same _ _ _, fun l hl => ?_⟩)
        have hx : (({ D with fl := upd D.fl q (some (Crc.turned (keptOf D q) a t)) } : Dv).fault q).read q = some (Crc.turned P a t) := by
          unfold Dv.read Dv.fault
          show (match D.pe q with | some l => some l | none => if D.fi q then none else some ((upd D.fl q (some _) q).getD _)) = _
          rw [h1]
          simp only
          rw [h4, upd_same, h3]
          rfl
        cases hl.symm.trans hx
        exact Crc.turned_sum_ne hP.1 (by rw [hP.2]; omega) m3.2 ht
      · rw [p2] at h2; cases h2
    · exact h.same rfl rfl (upd_other _ _ e) (upd_other _ _ e)
theorem Cp.fail {D : Dv} {q i : Int} {P : List Nat} (h : Cp D q P) : Cp (D.fail i) q P := by
  cases hm : D.may i with
  | false =>
    have : D.fail i = D := by unfold Dv.fail; rw [hm]; rfl
    rw [this]; exact h
  | true =>
    have : D.fail i = { D with fi := upd D.fi i true }.fault i := by unfold Dv.fail; rw [hm]; rfl
    rw [this]
    by_cases e : q = i
    · subst e
      obtain ⟨p1, p2⟩ := may_of hm
      refine .inr (.inr ⟨p1, upd_same _ _ _, fun l hl => ?_⟩)
      have hx := read_failed (D := { D with fi := upd D.fi q true }.fault q) (j := q) p1 (upd_same D.fi q true)
      cases hl.symm.trans hx
    · exact h.same rfl (upd_other _ _ e) rfl (upd_other _ _ e)
/-- a copy is right just if its bytes are those -/
theorem Cp.right {D : Dv} {q : Nat} {P : List Nat} (h : Cp D q P) : right D q (Crc.sum P) = decide (D.read q = some P) := by
  unfold PairG.right
  rcases h with h | ⟨h1, h2, h3, h4⟩ | ⟨h1, h2, h3⟩
  · rw [read_pending h]; simp
  · rw [read_flushed h1 h4, h3]; simp
  · cases hr : D.read q with
    | none => rfl
    | some l =>
      have := h3 l hr
      show decide (Crc.sum l = Crc.sum P) = _
      rw [decide_eq_false this]
      symm
      rw [decide_eq_false_iff_not]
      intro e
      cases e
      exact this rfl

/-- what Mend does -/
def mendP (D : Dv) (h c i s : Nat) : Option Nat × Dv × Nat :=
  match right D i s, right D (i + h) s with
  | true, true => (some 0, D, c)
  | false, false => (none, D, c)
  | true, false => (some 1, D.put ((i + h : Nat) : Int) ((D.read i).getD []), c + 1)
  | false, true => (some 1, D.put i ((D.read ((i + h : Nat) : Int)).getD []), c + 1)
theorem right_read {D : Dv} {j : Nat} {s : Nat} (h : right D j s = true) : ∃ l, D.read j = some l := by
  unfold right at h
  cases hr : D.read j with
  | none => rw [hr] at h; cases h
  | some l => exact ⟨l, rfl⟩
end Go.Proofs.YtbjfgdahfpfgdaaGreatDoor.PairG

namespace Go.Proofs.YtbjfgdahfpfgdaaGreatDoor.PgW
open Go Go.RowKit Go.Maps Go.Proofs.YtbjfgdahfpfgdaaGreatDoor.Mem Go.Proofs.YtbjfgdahfpfgdaaGreatDoor.MapsW Go.Proofs.YtbjfgdahfpfgdaaGreatDoor.SeeW Go.Proofs.YtbjfgdahfpfgdaaGreatDoor.DevG Go.Proofs.YtbjfgdahfpfgdaaGreatDoor.PairG Go.Proofs.YtbjfgdahfpfgdaaGreatDoor.RefsW Go.Proofs.YtbjfgdahfpfgdaaGreatDoor.PgP
set_option linter.unusedVariables false
set_option maxRecDepth 100000

theorem pmend_w (bs : List Addr) (lo d n : Nat) (m : Mp) (D : Dv) (p h c : Nat) (i s : Nat) (w : World) (k : PAt w lo d n m D p h c) (hB : Ev w lo bs five) (hi : i < h) (hbt : ∀ j l, D.read j = some l → Crc.Bytes l) (hn : n < 850000) (hc : D.calls < 1000000) (hc2 : c < 1000000) {j : Nat} {D' : Dv} {c' : Nat} (hm : mendP D h c i s = (some j, D', c')) :
    Calls Tryz.prog 76 #[ptr p, PairG.Rf i s] w (MendTo bs w lo d n m p h (some j) D' c') := by
  unfold mendP at hm
  cases r1 : PairG.right D i s with
  | true =>
    cases r2 : PairG.right D (i + h) s with
    | true =>
      rw [r1, r2] at hm
      cases hm
      exact mend_both bs lo d n m D p h c i s w k hB hi hbt r1 r2
    | false =>
      rw [r1, r2] at hm
      cases hm
      obtain ⟨l, hl⟩ := right_read r1
      rw [hl]
      exact mend_first bs lo d n m D p h c i s w k hB hi hbt r1 r2 hl hn hc hc2
  | false =>
    cases r2 : PairG.right D (i + h) s with
    | true =>
      rw [r1, r2] at hm
      cases hm
      obtain ⟨l, hl⟩ := right_read r2
      rw [hl]
      exact mend_second bs lo d n m D p h c i s w k hB hi hbt r1 r2 hl hn hc hc2
    | false =>
      rw [r1, r2] at hm
      cases hm
theorem smend_w (bs : List Addr) (lo n : Nat) (m : Mp) (D : Dv) (I : Si) (S : St) (i s : Nat) (w : World) (k : SAt w lo n m D I S) (hB : Ev w lo bs seven) (hi : i < I.H) (hu : D.down = false) (hz : D.fuse = 0) (hbt : ∀ j l, D.read j = some l → Crc.Bytes l) (hn : n < 850000) (hc : D.calls < 1000000) (hc2 : I.c < 1000000) {j : Nat} {D' : Dv} {c' : Nat} (hm : mendP D I.H I.c i s = (some j, D', c')) :
    Calls Tryz.prog 76 #[ptr I.p, PairG.Rf (i : Int) s] w fun e w' => e = .returned (.tuple #[.int .i64 (j : Int), .nilIface]) ∧ SAt w' lo (n + 1) m D' { I with c := c' } S ∧ Turn (I.p :: own I.d m) w w' := by
  have hp := pmend_w bs lo I.d n m D I.p I.H I.c i s w (k.pr.pat hu hz) (hB.sub (by decide)) hi hbt hn hc hc2 hm
  refine hp.mono ?_
  rintro e w' ⟨he, hp', ht⟩
  exact ⟨he, k.turn (PR.of hp') ht (by omega) (fun x hx => .inl hx), ht⟩
end Go.Proofs.YtbjfgdahfpfgdaaGreatDoor.PgW

namespace Go.Proofs.YtbjfgdahfpfgdaaGreatDoor.Ints
open Go Go.RowKit Go.Proofs.YtbjfgdahfpfgdaaGreatDoor.Mem
set_option linter.unusedVariables false
set_option maxRecDepth 100000

def ints (zs : List Int) : List Value := zs.map fun z => .int .i64 z
/-- a slice of integers -/
def Is (w : World) (a : Option Addr) (n cap : Nat) (zs : List Int) : Prop := Row w 1 a n cap (ints zs)
theorem Is.below {w w' : World} {a : Option Addr} {n cap : Nat} {zs : List Int} (h : Is w a n cap zs) (hb : Below w.heap.size w w') : Is w' a n cap zs := Row.below h hb
theorem Is.len {w : World} {a : Option Addr} {n cap : Nat} {zs : List Int} (h : Is w a n cap zs) : zs.length = n := by
  have := h.1; simp [ints] at this; omega
theorem Is.bound {w : World} {a : Option Addr} {n cap : Nat} {zs : List Int} (h : Is w a n cap zs) : n ≤ cap ∧ cap ≤ 9223372036854775807 := by
  have := h.2.2.1; unfold maxLen at this; exact ⟨h.2.1, by omega⟩
theorem Is.at {w : World} {a : Option Addr} {n cap : Nat} {zs : List Int} (h : Is w a n cap zs) {j : Nat} (hj : j < zs.length) :
    ∃ b off, a = some ⟨b, off, none⟩ ∧ w.cell? ⟨b, off + j, none⟩ = some (.int .i64 zs[j]) :=
  h.2.2.2.2 j _ (by simp [ints, hj])
/-- as the row's datum gives them -/
theorem is_of {w : World} {a : Option Addr} {len cap : Nat} {zs : List Int} (h : IsRow .i64 w a len cap zs) :
    ∃ l : List Int, Is w a len cap l ∧ ∀ x ∈ l, (Lit.int .i64 x).wf = true := by
  rcases h with ⟨rfl, rfl, rfl, rfl⟩ | ⟨x, rfl, hl, hm, hz, hc, hw⟩
  · exact ⟨[], ⟨rfl, Nat.le_refl _, Nat.zero_le _, fun _ => rfl, fun j u h => by simp [ints] at h⟩, by simp⟩
  · refine ⟨zs.take len, ⟨?_, hl, hm, fun h => by simp at h, fun j u hj => ?_⟩, ?_⟩
    · simp [ints]; omega
    · have hjl : j < len := by
        have := (List.getElem?_eq_some_iff.1 hj).1
        simp [ints] at this; omega
      have h1 := hc j (by omega)
      obtain ⟨b, off, spot⟩ := x
      have hs : spot = none := by
        have h0 := hc 0 (by omega)
        simpa [Addr.add] using World.cell?_spot h0
      subst hs
      refine ⟨b, off, rfl, ?_⟩
      rw [Addr.add_lit] at h1
      rw [h1]
      have hjz : j < zs.length := by omega
      have hu : u = .int .i64 (zs[j]) := by
        have h2 : (ints (zs.take len))[j]? = some (.int .i64 (zs[j])) := by
          simp [ints, hjl, hjz]
        rw [h2] at hj
        rw [← Option.some.inj hj]
      rw [hu, List.getD_eq_getElem?_getD, List.getElem?_eq_getElem hjz]
      rfl
    · intro y hy
      exact hw y (List.mem_of_mem_take hy)

end Go.Proofs.YtbjfgdahfpfgdaaGreatDoor.Ints
