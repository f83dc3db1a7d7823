/- The walk of root.Save; A store in memory (package page): what it asks of the world; what leaves it; The walk of page's count: how many tables there are; The walks of a store's small methods. -/
import Derived.Test.YtbjfgdahfpfgdaaGreatDoorKeepFaultsP5
import Derived.Test.YtbjfgdahfpfgdaaGreatDoorKeepFaultsP3
import Derived.Test.YtbjfgdahfpfgdaaGreatDoorKeepFaultsP9
import Derived.Test.YtbjfgdahfpfgdaaGreatDoorKeepFaultsP4
import Derived.Lib.SliceRun
import Derived.Lib.SlBuf
namespace Go.Proofs.YtbjfgdahfpfgdaaGreatDoor.DevG
open Go Go.RowKit Go.Maps Go.Proofs.YtbjfgdahfpfgdaaGreatDoor.Mem Go.Proofs.YtbjfgdahfpfgdaaGreatDoor.MapsW
set_option linter.unusedVariables false
set_option maxRecDepth 100000

/-- a device behind a write that was told well -/
def Dv.wrote (D : Dv) (p : Nat) (l : List Nat) : Dv := D.tick.put p l
theorem Dv.wrote_np (D : Dv) (p : Nat) (l : List Nat) : (D.wrote p l).np ≤ D.np + 1 ∧ (D.wrote p l).calls = D.calls + 1 ∧ (D.wrote p l).blocks = D.blocks ∧ (D.wrote p l).fuse ≤ D.fuse := by
  have h := D.tick_same
  unfold Dv.wrote Dv.put
  refine ⟨?_, by simp [h.2.2.2.2.2.2.2.2.1], by simp [h.1], by simp [h.2.2.2.2.2.2.2.2.2]⟩
  simp only
  split
  · rw [h.2.2.2.2.2.2.1]; omega
  · rw [h.2.2.2.2.2.2.1]; omega
/-- a root saved: what is told, what the device has then -/
def Dv.save (D : Dv) (H ep : Nat) (b : List Nat) : Option Nat × Dv :=
  if D.tick.down then (some 5, D.tick) else
  if (D.wrote (ep % 2) b).tick.down then (some 5, (D.wrote (ep % 2) b).tick) else
  ((D.wrote (ep % 2) b).wrote (ep % 2 + H) b).flushT
/-- .. step by step -/
def Dv.stage (D : Dv) (H ep : Nat) (b : List Nat) : Nat → Dv
  | 0 => D
  | 1 => D.wrote (ep % 2) b
  | _ => (D.wrote (ep % 2) b).wrote (ep % 2 + H) b
theorem Dv.stage_succ (D : Dv) (H ep : Nat) (b : List Nat) (k : Nat) (hk : k < [ep % 2, ep % 2 + H].length) : D.stage H ep b (k + 1) = (D.stage H ep b k).wrote ([ep % 2, ep % 2 + H][k]) b := by
  match k, hk with
  | 0, _ => rfl
  | 1, _ => rfl
theorem Dv.stage_in (D : Dv) (H ep : Nat) (b : List Nat) (k : Nat) : (D.stage H ep b k).np ≤ D.np + 2 ∧ (D.stage H ep b k).calls ≤ D.calls + 2 ∧ (D.stage H ep b k).blocks = D.blocks ∧ (D.stage H ep b k).fuse ≤ D.fuse := by
  have h1 := D.wrote_np (ep % 2) b
  have h2 := (D.wrote (ep % 2) b).wrote_np (ep % 2 + H) b
  unfold Dv.stage
  split
  · exact ⟨by omega, by omega, rfl, Nat.le_refl _⟩
  · exact ⟨by omega, by omega, h1.2.2.1, h1.2.2.2⟩
  · exact ⟨by omega, by omega, h2.2.2.1.trans h1.2.2.1, Nat.le_trans h2.2.2.2 h1.2.2.2⟩
theorem Dv.save_down (D : Dv) (H ep : Nat) (b : List Nat) (k : Nat) (hk : k < 2) (hup : ∀ j, j < k → (D.stage H ep b j).tick.down = false) (hd : (D.stage H ep b k).tick.down = true) : D.save H ep b = (some 5, (D.stage H ep b k).tick) := by
  unfold Dv.save
  match k, hk with
  | 0, _ =>
    simp only [Dv.stage] at hd ⊢
    rw [if_pos hd]
  | 1, _ =>
    have h0 := hup 0 (by decide)
    simp only [Dv.stage] at h0 hd ⊢
    rw [h0, if_neg (by decide), if_pos hd]
theorem Dv.save_up (D : Dv) (H ep : Nat) (b : List Nat) (hup : ∀ j, j < 2 → (D.stage H ep b j).tick.down = false) : D.save H ep b = (D.stage H ep b 2).flushT := by
  unfold Dv.save
  have h0 := hup 0 (by decide)
  have h1 := hup 1 (by decide)
  simp only [Dv.stage] at h0 h1 ⊢
  rw [h0, if_neg (by decide), h1, if_neg (by decide)]
end Go.Proofs.YtbjfgdahfpfgdaaGreatDoor.DevG
namespace Go.Proofs.YtbjfgdahfpfgdaaGreatDoor.RootW
open Go Go.RowKit Go.Maps Go.Proofs.YtbjfgdahfpfgdaaGreatDoor.Mem Go.Proofs.YtbjfgdahfpfgdaaGreatDoor.MapsW Go.Proofs.YtbjfgdahfpfgdaaGreatDoor.RootP Go.Proofs.YtbjfgdahfpfgdaaGreatDoor.SeeW Go.Proofs.YtbjfgdahfpfgdaaGreatDoor.RefsW Go.Proofs.YtbjfgdahfpfgdaaGreatDoor.DevG Go.Proofs.YtbjfgdahfpfgdaaGreatDoor.ConcatW
set_option linter.unusedVariables false
set_option maxRecDepth 100000

theorem nums_turn {k : IntKind} {S : List Nat} {w w' : World} {a : Option Addr} {n cap : Nat} {l : List Nat} (h : Nums k w a n cap l) (ht : Turn S w w') (hS : ∀ b o, a = some ⟨b, o, none⟩ → b ∉ S) : Nums k w' a n cap l :=
  Row.keep h fun b o e hlt => ht.block b hlt (hS b o e)
theorem cell_turn {S : List Nat} {w w' : World} {b o : Nat} {v : Value} (h : w.cell? ⟨b, o, none⟩ = some v) (ht : Turn S w w') (hS : b ∉ S) : w'.cell? ⟨b, o, none⟩ = some v :=
  (World.cell?_of_block (ht.block b (World.block_lt_of_cell? w _ h) hS)).trans h
def SaveTo (bs : List Addr) (w : World) (lo d n : Nat) (m : Mp) (r : Option Nat × Dv) (e : Ending) (w' : World) : Prop :=
  (∃ v, Says bs r.1 v ∧ e = .returned v) ∧ ∃ p', (p' = m.p ∨ w.heap.size ≤ p') ∧ At w' lo d n { m with p := p' } r.2 ∧ Turn (own d m) w w'
set_option maxHeartbeats 3200000 in
theorem save_w (bs : List Addr) (d lo n : Nat) (m : Mp) (D : Dv) (ep : Nat) (rs : List (Int × Nat)) (a : Option Addr) (c : Nat) (w : World) (h : At w lo d n m D) (hB : Ev w lo bs six) (hb1 : 300 ≤ D.blocks) (hb2 : D.blocks ≤ 6000) (hl : Refs w a rs.length c rs) (hg : RootP.Good ⟨ep, rs⟩) (hs : ∀ x ∈ rs, x.2 < 4294967296)
    (hn : n < 800000) (hp : D.np < 10000) (hc : D.calls < 900000) (hz : D.fuse ≤ 1000000) :
    Calls Tryz.prog 92 #[ptr d, Rv ep a rs.length c] w (SaveTo bs w lo d (n + 8 + 3 * D.np) m (D.save (GeoW.half D.blocks) ep (enc ⟨ep, rs⟩))) := by
  have bx := (Below.refl w.heap.size w).alloc (Nat.le_refl _) (.cells #[.int .i64 (ep : Int), .slice a rs.length c] 89)
  obtain ⟨x0, x1⟩ := new2 w (.int .i64 (ep : Int)) (.slice a rs.length c) 89
  obtain ⟨H, hH⟩ : ∃ H, H = GeoW.half D.blocks := ⟨_, rfl⟩
  have hH1 := GeoW.half_le D.blocks
  have hH2 := GeoW.half_512 D.blocks
  have hof := fun w => GeoW.of_good D.blocks w hb1 hb2
  rw [← hH] at hH1 hH2 ⊢
  simp only [← hH] at hof
  clear hH
  have h40 := hg.e2
  simp only at h40
  have hby := fun (w : World) (hl : Refs w a rs.length c rs) (hB : Ev w lo bs six) => bytes_ok bs lo ⟨ep, rs⟩ a rs.length c w hl (hB.sub (by decide)) hg hs
  have HOLD := hid h.old
  clear hg
  go_enter Tryz.func92, Tryz.ntmps92
  go_wp2_with fail
  refine (blocks_w d lo n m D _ (h.below bx)).mono ?_
  rintro e w' ⟨rfl, rfl⟩
  go_wp2_with fail
  refine (hof _).mono ?_
  rintro e w1 ⟨rfl, b1⟩
  have B1 := bx.trans (b1.mono bx.size)
  replace x0 := kept b1 x0
  replace x1 := kept b1 x1
  have al := (Below.refl w1.heap.size w1).alloc (Nat.le_refl _) (.cells #[.int .i64 (D.blocks : Int), .int .i64 (H : Int)] 25)
  obtain ⟨g0, g1⟩ := new2 w1 (.int .i64 (D.blocks : Int)) (.int .i64 (H : Int)) 25
  replace x0 := kept al x0
  replace x1 := kept al x1
  have B2 := B1.trans (al.mono B1.size)
  clear b1 al B1 hof
  go_wp2_with fail
  refine (hby _ (hl.below B2) (hB.below B2)).mono ?_
  rintro e w2 ⟨⟨v, rfl, own2⟩, b2⟩
  obtain ⟨gb, cb, rfl, nb, fb⟩ := row_of own2
  have zB := B2.size
  replace x0 := kept b2 x0
  replace g0 := kept b2 g0
  replace g1 := kept b2 g1
  have B3 := B2.trans (b2.mono B2.size)
  have fb' : w.heap.size ≤ gb := Nat.le_trans zB fb
  clear x1 own2 b2 B2 hby fb zB
  go_wp2_with fail
  refine (places_w D.blocks H ep _ (by omega) (by omega)).mono ?_
  rintro e w3 ⟨gp, rfl, np, b3, fp⟩
  have nb3 := nb.below b3
  have fp' : w.heap.size ≤ gp := Nat.le_trans B3.size fp
  have B4 := B3.trans (b3.mono B3.size)
  have h3 := h.below B4
  have hB3 := hB.below B4
  have hlo := h.own_lo
  have ob : gb ∉ own d m := fun hm => by have := HOLD.out gb hm; omega
  have op : gp ∉ own d m := fun hm => by have := HOLD.out gp hm; omega
  clear g0 g1 x0 nb b3 fp B3 h hB hl fb' fp'
  have HI := hid (Dv.stage_in D H ep (enc ⟨ep, rs⟩))
  have HS := hid (Dv.stage_succ D H ep (enc ⟨ep, rs⟩))
  have HD := hid (Dv.save_down D H ep (enc ⟨ep, rs⟩))
  have HU := hid (Dv.save_up D H ep (enc ⟨ep, rs⟩))
  have h0 : At w3 lo d n m (D.stage H ep (enc ⟨ep, rs⟩) 0) := h3
  generalize hst : D.stage H ep (enc ⟨ep, rs⟩) = st at *
  generalize hbe : enc ⟨ep, rs⟩ = b at *
  clear h3 hst hbe hs
  go_wp2_with fail
  go_loopw [33] (fun i wr => ∃ k : Nat, k ≤ 2 ∧ i = .int .i64 k ∧ At wr lo d (n + k) m (st k) ∧ Turn (own d m) w3 wr ∧ ∀ j, j < k → (st j).tick.down = false) (fun i _ => 2 - (RowKit.intOf i).toNat)
  case atStart => exact ⟨0, by omega, rfl, h0, Turn.refl _ _, fun j hj => by omega⟩
  case round =>
    clear h0
    obtain ⟨k, hk, rfl, h0, hT, hup⟩ := hrel
    have HUP := hid hup
    clear hup
    obtain ⟨i1, i2, i3, i4⟩ := HI.out k
    have nb' := nums_turn nb3 hT (fun b o e => by cases e; exact ob)
    have np' := nums_turn np hT (fun b o e => by cases e; exact op)
    have hB' := hB3.turn hT hlo
    by_cases hlt : k < 2
    · have hkl : k < [ep % 2, ep % 2 + H].length := hlt
      obtain ⟨bq, oq, e, hc'⟩ := np'.at hkl
      cases e
      have HS2 := hid (HS.out k hkl)
      have hin : [ep % 2, ep % 2 + H][k] < D.blocks := by
        have : ∀ x ∈ [ep % 2, ep % 2 + H], x < D.blocks := by simp; omega
        exact this _ (List.getElem_mem hkl)
      generalize [ep % 2, ep % 2 + H][k] = x at hc' HS2 hin
      rw [Nat.zero_add] at hc'
      by_cases hd : (st k).tick.down = true
      · have hw := write_no bs d lo _ m (st k) x (some ⟨gb, 0, none⟩) 256 cb wr h0 (hB'.sub (by decide)) (by omega) (fits_nat (by omega)) 5 _ (by decide) rfl (.inl ⟨hd, rfl⟩)
        have HR := hid (HD.out k hlt HUP.out hd)
        have HT := hid hT
        clear hd nb' np' hB' h0 hT
        go_wp2_with fail
        refine hw.mono ?_
        rintro e w4 ⟨⟨ax, hax, rfl⟩, h4, t4⟩
        go_wp2_with fail
        go_ret
        rw [HR.out]
        exact ⟨⟨_, ⟨ax, hax, rfl⟩, rfl⟩, m.p, .inl rfl, h4.mono (by omega) (Nat.le_refl _), ((Turn.of_below B4).trans HT.out (fun x hx => .inl hx)).then (own1 t4)⟩
      · have hd : (st k).tick.down = false := by simpa using hd
        have hw := write_ok d lo _ m (st k) x _ cb b wr h0 (by omega) (by omega) nb' (by omega) (by omega) (by omega) hd
        have HT := hid hT
        have HUQ := hid (show ∀ j, j < k + 1 → (st j).tick.down = false from fun j hj => (Nat.lt_or_ge j k).elim (fun h => HUP.out j h) (fun h => by rw [show j = k by omega]; exact hd))
        clear hd nb' np' hB' h0 hT
        go_wp2_with fail
        refine hw.mono ?_
        rintro e w4 ⟨rfl, h4, t4⟩
        have H4 := hid h4
        have T4 := hid t4
        clear h4 t4
        go_wp2_with fail
        go_roundw
        case rel => exact ⟨k + 1, by omega, by go_num, by rw [HS2.out]; exact H4.out, HT.out.then T4.out, HUQ.out⟩
        case measure => simp [RowKit.intOf]; omega
    · obtain rfl : k = 2 := by omega
      have hw := flush_w bs d lo _ m (st 2) wr h0 (hB'.sub (by decide)) (by omega) (by omega) (by omega) (by omega)
      have HR := hid (HU.out HUP.out)
      have HT := hid hT
      clear nb' np' hB' h0 hT
      go_wp2_with fail
      refine hw.mono ?_
      rintro e w4 ⟨⟨v, hv, rfl⟩, p', hp', h4, t4⟩
      have H4 := hid h4
      have T4 := hid t4
      clear h4 t4
      go_wp2_with fail
      go_ret
      rw [HR.out]
      exact ⟨⟨v, hv, rfl⟩, p', hp'.imp id (fun h => by have := HT.out.size; have := B4.size; omega), H4.out.mono (by omega) (Nat.le_refl _), ((Turn.of_below B4).trans HT.out (fun x hx => .inl hx)).then T4.out⟩
end Go.Proofs.YtbjfgdahfpfgdaaGreatDoor.RootW

namespace Go.Proofs.YtbjfgdahfpfgdaaGreatDoor.PgW
open Go Go.RowKit Go.Maps Go.Proofs.YtbjfgdahfpfgdaaGreatDoor.Mem Go.Proofs.YtbjfgdahfpfgdaaGreatDoor.MapsW Go.Proofs.YtbjfgdahfpfgdaaGreatDoor.SeeW Go.Proofs.YtbjfgdahfpfgdaaGreatDoor.DevG Go.Proofs.YtbjfgdahfpfgdaaGreatDoor.PairG Go.Proofs.YtbjfgdahfpfgdaaGreatDoor.RefsW Go.Proofs.YtbjfgdahfpfgdaaGreatDoor.PgP
set_option linter.unusedVariables false
set_option maxRecDepth 100000

/-- pairs on a device that may be armed, or down -/
structure PR (w : World) (lo d n : Nat) (m : Mp) (D : Dv) (p h c : Nat) : Prop where
  dev : At w lo d n m D
  cells : w.heap[p]? = some (.cells (pcells d D.blocks h c) 160)
  half : 2 * h ≤ D.blocks
  most : D.blocks ≤ 6000
  lop : lo ≤ p
theorem PR.pat {w : World} {lo d n : Nat} {m : Mp} {D : Dv} {p h c : Nat} (k : PR w lo d n m D p h c) (hu : D.down = false) (hz : D.fuse = 0) : PAt w lo d n m D p h c := ⟨k.dev, k.cells, k.half, k.most, k.lop, hu, hz⟩
theorem PR.of {w : World} {lo d n : Nat} {m : Mp} {D : Dv} {p h c : Nat} (k : PAt w lo d n m D p h c) : PR w lo d n m D p h c := ⟨k.dev, k.cells, k.half, k.most, k.lop⟩
theorem PR.ne {w : World} {lo d n : Nat} {m : Mp} {D : Dv} {p h c : Nat} (k : PR w lo d n m D p h c) : p ≠ d := by
  rintro rfl
  have h1 := k.cells
  rw [k.dev.cells] at h1
  have h2 := (Obj.cells.inj (Option.some.inj h1)).1
  have h3 := congrArg (·[0]?) h2
  simp at h3
theorem PR.c {w : World} {lo d n : Nat} {m : Mp} {D : Dv} {p h c : Nat} (k : PR w lo d n m D p h c) :
    w.cell? ⟨p, 0, none⟩ = some (ptr d) ∧ w.cell? ⟨p, 1, none⟩ = some (.int .i64 D.blocks) ∧ w.cell? ⟨p, 2, none⟩ = some (.int .i64 h) ∧ w.cell? ⟨p, 3, none⟩ = some (.int .i64 c) ∧ w.frozen? ⟨p, 3, none⟩ = false := by
  have := k.cells
  simp [World.cell?, World.frozen?, this]
/-- what the device does leaves the pairs -/
theorem PR.turn {w w' : World} {lo d n n' : Nat} {m m' : Mp} {D D' : Dv} {p h c : Nat} (k : PR w lo d n m D p h c) (hd : At w' lo d n' m' D') (ht : Turn (own d m) w w') (hb : D'.blocks = D.blocks) : PR w' lo d n' m' D' p h c := by
  refine ⟨hd, ?_, by rw [hb]; exact k.half, by rw [hb]; exact k.most, k.lop⟩
  rw [hb]
  exact ht.cells k.cells (k.dev.out k.cells k.ne)
theorem PR.below {w w' : World} {lo d n : Nat} {m : Mp} {D : Dv} {p h c : Nat} (k : PR w lo d n m D p h c) (hb : Below w.heap.size w w') : PR w' lo d n m D p h c :=
  k.turn (k.dev.below hb) (Turn.of_below hb) rfl
theorem PR.mono {w : World} {lo lo' d n n' : Nat} {m : Mp} {D : Dv} {p h c : Nat} (k : PR w lo d n m D p h c) (hn : n ≤ n') (hl : lo' ≤ lo) : PR w lo' d n' m D p h c :=
  ⟨k.dev.mono hn hl, k.cells, k.half, k.most, Nat.le_trans hl k.lop⟩
theorem PR.plt {w : World} {lo d n : Nat} {m : Mp} {D : Dv} {p h c : Nat} (k : PR w lo d n m D p h c) : p < w.heap.size := (Array.getElem?_eq_some_iff.1 k.cells).1
theorem PR.nou8 {w : World} {lo d n : Nat} {m : Mp} {D : Dv} {p h c : Nat} (k : PR w lo d n m D p h c) : ∀ x ∈ p :: own d m, ∀ off z, w.cell? ⟨x, off, none⟩ ≠ some (.int .u8 z) := by
  intro x hx off z
  rcases List.mem_cons.1 hx with rfl | hx
  · refine nou8_cells k.cells ?_ off z
    intro v hv z e
    subst e
    simp at hv
  · exact At.nou8 k.dev x hx off z
/-- what writes elsewhere, into maps or into blocks whose first cell is no byte, leaves the pairs -/
theorem PR.away {S : List Nat} {w w' : World} {lo d n : Nat} {m : Mp} {D : Dv} {p h c : Nat} (k : PR w lo d n m D p h c) (ht : Turn S w w') (hS : ∀ x ∈ S, x ∉ p :: own d m)
    (hb : ∀ x ∈ S, NoCells w x ∨ ∃ v, w.cell? ⟨x, 0, none⟩ = some v ∧ ∀ z, v ≠ .int .u8 z) : PR w' lo d n m D p h c := by
  refine ⟨k.dev.turn ht (fun hm => hS d hm (by simp)) (fun x hx hm => hS x hm (by simp [own, hx])) hb, ht.cells k.cells (fun hm => hS p hm (by simp)), k.half, k.most, k.lop⟩

/-- a store's cells -/
abbrev scells (d p : Nat) (ep : Nat) (ra : Option Addr) (rn rc : Nat) (tb tc a o : Nat) (z : Int) : Array Value :=
  #[ptr d, ptr p, .int .i64 ep, .slice ra rn rc, .slice (some ⟨tb, 0, none⟩) 7 tc, .map (some a), .map (some o), .int .i64 z]
/-- where a store lies -/
structure Si where
  d : Nat
  p : Nat
  H : Nat
  c : Nat
  s : Nat
  a : Nat
  o : Nat
  ra : Option Addr
  rc : Nat
  tb : Nat
  tc : Nat
  z : Int
/-- a store in memory -/
structure SAt (w : World) (lo n : Nat) (m : Mp) (D : Dv) (I : Si) (S : St) : Prop where
  pr : PR w lo I.d n m D I.p I.H I.c
  cells : w.heap[I.s]? = some (.cells (scells I.d I.p S.ep I.ra S.rs.length I.rc I.tb I.tc I.a I.o I.z) 93)
  refs : Refs w I.ra S.rs.length I.rc S.rs
  tabs : Refs w (some ⟨I.tb, 0, none⟩) 7 I.tc S.tabs
  at_ : ∃ k, RefMap w I.a n S.at_ k
  now : ∃ k, NowMap w lo I.o n S.now k
  ao : I.a ≠ I.o
  sx : I.s ∉ own I.d m
  ax : I.a ∉ own I.d m
  ox : I.o ∉ own I.d m
  rx : ∀ b off, I.ra = some ⟨b, off, none⟩ → b < w.heap.size ∧ b ∉ I.s :: I.p :: I.a :: I.o :: own I.d m
  tx : I.tb ∉ I.s :: I.p :: I.a :: I.o :: own I.d m
  slo : lo ≤ I.s ∧ lo ≤ I.a ∧ lo ≤ I.o
/-- what is a store's alone -/
abbrev Si.own (I : Si) (m : Mp) : List Nat := I.s :: I.p :: I.a :: I.o :: DevG.own I.d m
theorem SAt.c {w : World} {lo n : Nat} {m : Mp} {D : Dv} {I : Si} {S : St} (k : SAt w lo n m D I S) :
    w.cell? ⟨I.s, 0, none⟩ = some (ptr I.d) ∧ w.cell? ⟨I.s, 1, none⟩ = some (ptr I.p) ∧ w.cell? ⟨I.s, 2, none⟩ = some (.int .i64 S.ep) ∧ w.cell? ⟨I.s, 3, none⟩ = some (.slice I.ra S.rs.length I.rc) ∧ w.cell? ⟨I.s, 4, none⟩ = some (.slice (some ⟨I.tb, 0, none⟩) 7 I.tc) ∧
    w.cell? ⟨I.s, 5, none⟩ = some (.map (some I.a)) ∧ w.cell? ⟨I.s, 6, none⟩ = some (.map (some I.o)) ∧ w.cell? ⟨I.s, 7, none⟩ = some (.int .i64 I.z) ∧
    (∀ j, w.frozen? ⟨I.s, j, none⟩ = false) := by
  have := k.cells
  simp [World.cell?, World.frozen?, this]
theorem SAt.slt {w : World} {lo n : Nat} {m : Mp} {D : Dv} {I : Si} {S : St} (k : SAt w lo n m D I S) : I.s < w.heap.size := (Array.getElem?_eq_some_iff.1 k.cells).1
theorem SAt.amap {w : World} {lo n : Nat} {m : Mp} {D : Dv} {I : Si} {S : St} (k : SAt w lo n m D I S) : ∃ es ck, w.heap[I.a]? = some (.map es ck) := let ⟨_, h⟩ := k.at_; h.block
theorem SAt.omap {w : World} {lo n : Nat} {m : Mp} {D : Dv} {I : Si} {S : St} (k : SAt w lo n m D I S) : ∃ es ck, w.heap[I.o]? = some (.map es ck) := let ⟨_, h⟩ := k.now; h.block
theorem SAt.ne {w : World} {lo n : Nat} {m : Mp} {D : Dv} {I : Si} {S : St} (k : SAt w lo n m D I S) : I.s ≠ I.p ∧ I.s ≠ I.a ∧ I.s ≠ I.o ∧ I.p ≠ I.a ∧ I.p ≠ I.o := by
  obtain ⟨e1, c1, ha⟩ := k.amap
  obtain ⟨e2, c2, ho⟩ := k.omap
  have hs := k.cells
  have hp := k.pr.cells
  refine ⟨fun e => ?_, fun e => ?_, fun e => ?_, fun e => ?_, fun e => ?_⟩
  · rw [e, hp] at hs
    have h3 := congrArg (·[1]?) (Obj.cells.inj (Option.some.inj hs)).1
    simp at h3
  · rw [e, ha] at hs; cases hs
  · rw [e, ho] at hs; cases hs
  · rw [e, ha] at hp; cases hp
  · rw [e, ho] at hp; cases hp
theorem SAt.nou8 {w : World} {lo n : Nat} {m : Mp} {D : Dv} {I : Si} {S : St} (k : SAt w lo n m D I S) : ∀ x ∈ I.own m, ∀ off z, w.cell? ⟨x, off, none⟩ ≠ some (.int .u8 z) := by
  intro x hx off z
  obtain ⟨e1, c1, ha⟩ := k.amap
  obtain ⟨e2, c2, ho⟩ := k.omap
  rcases List.mem_cons.1 hx with rfl | hx
  · refine nou8_cells k.cells ?_ off z
    intro v hv z e
    subst e
    simp at hv
  · rcases List.mem_cons.1 hx with rfl | hx
    · exact k.pr.nou8 _ (by simp) off z
    · rcases List.mem_cons.1 hx with rfl | hx
      · intro e; simp [World.cell?, ha] at e
      · rcases List.mem_cons.1 hx with rfl | hx
        · intro e; simp [World.cell?, ho] at e
        · exact k.pr.nou8 _ (by simp [hx]) off z
theorem SAt.own_lo {w : World} {lo n : Nat} {m : Mp} {D : Dv} {I : Si} {S : St} (k : SAt w lo n m D I S) : ∀ x ∈ I.own m, lo ≤ x := by
  intro x hx
  rcases List.mem_cons.1 hx with rfl | hx
  · exact k.slo.1
  · rcases List.mem_cons.1 hx with rfl | hx
    · exact k.pr.lop
    · rcases List.mem_cons.1 hx with rfl | hx
      · exact k.slo.2.1
      · rcases List.mem_cons.1 hx with rfl | hx
        · exact k.slo.2.2
        · exact k.pr.dev.own_lo x hx
theorem SAt.own_lt {w : World} {lo n : Nat} {m : Mp} {D : Dv} {I : Si} {S : St} (k : SAt w lo n m D I S) : ∀ x ∈ I.own m, x < w.heap.size := by
  intro x hx
  obtain ⟨e1, c1, ha⟩ := k.amap
  obtain ⟨e2, c2, ho⟩ := k.omap
  rcases List.mem_cons.1 hx with rfl | hx
  · exact k.slt
  · rcases List.mem_cons.1 hx with rfl | hx
    · exact k.pr.plt
    · rcases List.mem_cons.1 hx with rfl | hx
      · exact (Array.getElem?_eq_some_iff.1 ha).1
      · rcases List.mem_cons.1 hx with rfl | hx
        · exact (Array.getElem?_eq_some_iff.1 ho).1
        · rcases List.mem_cons.1 hx with rfl | hx
          · exact k.pr.dev.dlt
          · obtain ⟨es, ck, hb⟩ := k.pr.dev.maps x hx
            exact (Array.getElem?_eq_some_iff.1 hb).1
theorem now_turn {S : List Nat} {w w' : World} {base b n k : Nat} {F : Int → Option (List Nat)} (h : NowMap w base b n F k) (ht : Turn S w w') (hb : b ∉ S) (hS : ∀ x ∈ S, ∀ off z, w.cell? ⟨x, off, none⟩ ≠ some (.int .u8 z)) : NowMap w' base b n F k := by
  obtain ⟨es, ck, hk⟩ := h.block
  refine h.keep (ht.block b (Array.getElem?_eq_some_iff.1 hk).1 hb) fun g _ hc hz => ?_
  obtain ⟨c, t, f, hc⟩ := hc
  obtain ⟨z, hz⟩ := hz
  exact ht.block g (Array.getElem?_eq_some_iff.1 hc).1 fun hm => hS g hm 0 z hz
theorem ref_turn {S : List Nat} {w w' : World} {b n k : Nat} {F : Int → Option (Int × Nat)} (h : RefMap w b n F k) (ht : Turn S w w') (hb : b ∉ S) : RefMap w' b n F k := by
  obtain ⟨es, ck, hk⟩ := h.block
  exact h.still (ht.block b (Array.getElem?_eq_some_iff.1 hk).1 hb)
theorem refs_turn {S : List Nat} {w w' : World} {a : Option Addr} {n cap : Nat} {rs : List (Int × Nat)} (h : Refs w a n cap rs) (ht : Turn S w w') (hS : ∀ b o, a = some ⟨b, o, none⟩ → b ∉ S) : Refs w' a n cap rs :=
  Row.keep h fun b o e hlt => ht.block b hlt (hS b o e)
/-- what the pairs and the device do leaves the store -/
theorem SAt.turn {w w' : World} {lo n n' : Nat} {m m' : Mp} {D D' : Dv} {I : Si} {S : St} {c' : Nat} (k : SAt w lo n m D I S) (hp : PR w' lo I.d n' m' D' I.p I.H c') (ht : Turn (I.p :: own I.d m) w w') (hn : n ≤ n') (hm : ∀ x ∈ own I.d m', x ∈ own I.d m ∨ w.heap.size ≤ x) :
    SAt w' lo n' m' D' { I with c := c' } S := by
  obtain ⟨n1, n2, n3, n4, n5⟩ := k.ne
  have hlt := k.own_lt
  obtain ⟨k1, h1⟩ := k.at_
  obtain ⟨k2, h2⟩ := k.now
  have hsx : I.s ∉ I.p :: own I.d m := by simp only [List.mem_cons, not_or]; exact ⟨n1, by simpa using k.sx⟩
  have hax : I.a ∉ I.p :: own I.d m := by simp only [List.mem_cons, not_or]; exact ⟨fun e => n4 e.symm, by simpa using k.ax⟩
  have hox : I.o ∉ I.p :: own I.d m := by simp only [List.mem_cons, not_or]; exact ⟨fun e => n5 e.symm, by simpa using k.ox⟩
  have hsub : ∀ x ∈ I.p :: own I.d m, x ∈ I.own m := fun x hx => by
    rcases List.mem_cons.1 hx with rfl | hx
    · simp
    · simp only [List.mem_cons]; exact .inr (.inr (.inr (.inr (List.mem_cons.1 hx))))
  have hnew : ∀ x, x < w.heap.size → x ∉ own I.d m → x ∉ own I.d m' := fun x h3 h4 h5 => (hm x h5).elim h4 (by omega)
  have hlist : ∀ b, b < w.heap.size → b ∉ I.own m → b ∉ I.own m' := by
    intro b hb h3 h4
    simp only [List.mem_cons, not_or] at h3 h4
    obtain ⟨q1, q2, q3, q4, q5⟩ := h3
    rcases h4 with h4 | h4 | h4 | h4 | h4
    · exact q1 h4
    · exact q2 h4
    · exact q3 h4
    · exact q4 h4
    · exact hnew b hb (by simpa using q5) (by simpa using h4)
  refine ⟨hp, ht.cells k.cells hsx, refs_turn k.refs ht fun b o e hm' => (k.rx b o e).2 (hsub b hm'), refs_turn k.tabs ht fun b o e hm' => ?_, ⟨k1, (ref_turn h1 ht hax).mono hn⟩, ⟨k2, (now_turn h2 ht hox fun x hx => k.nou8 x (hsub x hx)).mono hn (Nat.le_refl _)⟩, k.ao, hnew _ k.slt k.sx, hnew _ (hlt _ (by simp)) k.ax, hnew _ (hlt _ (by simp)) k.ox, ?_, ?_, k.slo⟩
  · cases e
    exact k.tx (hsub _ hm')
  · intro b off e
    obtain ⟨h3, h4⟩ := k.rx b off e
    exact ⟨Nat.lt_of_lt_of_le h3 ht.size, hlist b h3 h4⟩
  · refine hlist _ ?_ k.tx
    obtain ⟨b', o', e, hc, _⟩ := k.tabs.at (j := 0) (by rw [k.tabs.len]; decide)
    cases e
    exact World.block_lt_of_cell? _ _ hc
theorem SAt.below {w w' : World} {lo n : Nat} {m : Mp} {D : Dv} {I : Si} {S : St} (k : SAt w lo n m D I S) (hb : Below w.heap.size w w') : SAt w' lo n m D I S :=
  k.turn (k.pr.below hb) (Turn.of_below hb) (Nat.le_refl _) fun x hx => .inl hx
theorem SAt.mono {w : World} {lo n n' : Nat} {m : Mp} {D : Dv} {I : Si} {S : St} (k : SAt w lo n m D I S) (hn : n ≤ n') : SAt w lo n' m D I S :=
  k.turn (k.pr.mono hn (Nat.le_refl _)) (Turn.refl _ _) hn fun x hx => .inl hx
/-- what is written into the changes leaves all else -/
theorem SAt.putO {w w' : World} {lo n k' : Nat} {m : Mp} {D : Dv} {I : Si} {S : St} {N : Int → Option (List Nat)} (k : SAt w lo n m D I S) (hr : NowMap w' lo I.o (n + 1) N k') (hg : w.grownBy w' (some I.o)) : SAt w' lo (n + 1) m D I { S with now := N } := by
  obtain ⟨n1, n2, n3, n4, n5⟩ := k.ne
  obtain ⟨k1, h1⟩ := k.at_
  have ht : Turn [I.o] w w' := Turn.of_grown hg (by simp)
  have hno : NoCells w I.o := nocells k.omap
  have htx := k.tx
  refine ⟨(k.pr.away ht (fun x hx => ?_) (fun x hx => .inl (by rw [List.mem_singleton.1 hx]; exact hno))).mono (by omega) (Nat.le_refl _), ht.cells k.cells (by simpa using n3), refs_turn k.refs ht fun b o e hm => ?_, refs_turn k.tabs ht fun b o e hm => ?_, ⟨k1, (ref_turn h1 ht (by simpa using k.ao)).mono (by omega)⟩, ⟨k', hr⟩, k.ao, k.sx, k.ax, k.ox, fun b off e => ⟨Nat.lt_of_lt_of_le (k.rx b off e).1 ht.size, (k.rx b off e).2⟩, k.tx, k.slo⟩
  · rw [List.mem_singleton.1 hx]
    intro hm
    rcases List.mem_cons.1 hm with e | hm
    · exact n5 e.symm
    · exact k.ox hm
  · have h2 := (k.rx b o e).2
    rw [List.mem_singleton.1 hm] at h2
    simp at h2
  · cases e
    rw [List.mem_singleton.1 hm] at htx
    simp at htx
end Go.Proofs.YtbjfgdahfpfgdaaGreatDoor.PgW

namespace Go.Proofs.YtbjfgdahfpfgdaaGreatDoor.PgW
open Go Go.RowKit Go.Maps Go.Proofs.YtbjfgdahfpfgdaaGreatDoor.Mem Go.Proofs.YtbjfgdahfpfgdaaGreatDoor.MapsW Go.Proofs.YtbjfgdahfpfgdaaGreatDoor.PgP Go.Proofs.YtbjfgdahfpfgdaaGreatDoor.RefsW
set_option linter.unusedVariables false
set_option maxRecDepth 100000

theorem refCells_set : ∀ (L : List (Int × Nat)) (i : Nat) (r : Int × Nat), refCells (L.set i r) = ((refCells L).set (i * 2) (.int .i64 r.1)).set (i * 2 + 1) (.int .u32 (r.2 : Int))
  | [], i, r => by simp [refCells]
  | x :: L, 0, r => rfl
  | x :: L, i + 1, r => by
    have ih := refCells_set L i r
    show Value.int .i64 x.1 :: Value.int .u32 (x.2 : Int) :: refCells (L.set i r) = _
    rw [ih, show (i + 1) * 2 = i * 2 + 1 + 1 by omega]
    rfl
/-- a place stored into a row of one's own -/
theorem own_ref {w : World} {base g n c : Nat} {L : List (Int × Nat)} (h : OwnRefs w base (.slice (some ⟨g, 0, none⟩) n c) n L) (i : Nat) (r : Int × Nat) :
    OwnRefs ((w.setCell ⟨g, i * 2, none⟩ (.int .i64 r.1)).setCell ⟨g, i * 2 + 1, none⟩ (.int .u32 (r.2 : Int))) base (.slice (some ⟨g, 0, none⟩) n c) n (L.set i r) := by
  have h1 := (World.ownsRow.stored h (i * 2) (.int .i64 r.1)).1
  have h2 := (World.ownsRow.stored h1 (i * 2 + 1) (.int .u32 (r.2 : Int))).1
  show World.ownsRow _ _ _ _ _ _ (refCells (L.set i r))
  rw [refCells_set]
  exact h2
theorem zero_w (r : Int × Nat) (w : World) : Calls Tryz.prog 122 #[refV r] w fun e w' => e = .returned (.bool (decide (r.1 = 0))) ∧ Below w.heap.size w w' := by
  have b1 := (Below.refl w.heap.size w).alloc (Nat.le_refl _) (.cells #[.int .i64 r.1, .int .u32 (r.2 : Int)] 111)
  by_cases h : r.1 = 0
  · have h1 : (r.1 == 0) = true := by simpa using h
    rw [decide_eq_true h]
    clear h
    go_enter Tryz.func122, Tryz.ntmps122
    go_wp2
    go_ret
    exact ⟨rfl, b1⟩
  · have h1 : (r.1 == 0) = false := by simpa using h
    rw [decide_eq_false h]
    clear h
    go_enter Tryz.func122, Tryz.ntmps122
    go_wp2
    go_ret
    exact ⟨rfl, b1⟩
abbrev zv : Value := .func (.func 122) #[] #[]
set_option maxHeartbeats 800000 in
theorem zindex_w (a : Option Addr) (n cap : Nat) (rs : List (Int × Nat)) (w : World) (hl : Refs w a n cap rs) :
    Calls Tryz.prog 150 #[.slice a n cap, zv] w fun e w' => (∃ r : Int, e = .returned (.int .i64 r) ∧ ((r = -1 ∧ ∀ x ∈ rs, x.1 ≠ 0) ∨ ∃ k : Nat, ∃ hk : k < rs.length, r = (k : Int) ∧ rs[k].1 = 0 ∧ ∀ x ∈ rs.take k, x.1 ≠ 0)) ∧ Below w.heap.size w w' := by
  have HL := hid hl.len
  obtain ⟨c1, c2⟩ := hl.bound
  go_enter Tryz.func150, Tryz.ntmps150
  go_wp2_with fail
  go_loopw [8] (fun i wr => ∃ k : Nat, k ≤ n ∧ i = .int .i64 k ∧ (∀ x ∈ rs.take k, x.1 ≠ 0) ∧ Below w.heap.size w wr) (fun i _ => n - (RowKit.intOf i).toNat)
  case atStart => exact ⟨0, by omega, rfl, by simp, Below.refl _ _⟩
  case round =>
    obtain ⟨k, hk, rfl, hT, hbel⟩ := hrel
    have HT := hid hT
    clear hT
    replace hl := hl.below hbel
    have hsz := hbel.size
    have HB := hid hbel
    clear hbel
    by_cases hlt : k < n
    · have hkl : k < rs.length := by rw [HL.out]; exact hlt
      obtain ⟨b0, o0, rfl, hc0, hc1⟩ := hl.at hkl
      have HKL := hid (List.take_succ_eq_append_getElem hkl)
      obtain ⟨y, hy⟩ : ∃ y, y = rs[k] := ⟨_, rfl⟩
      have HY := hid hy
      rw [← hy] at hc0 hc1
      clear hy
      by_cases hz : y.1 = 0
      · have hzw := zero_w y
        rw [decide_eq_true hz] at hzw
        have HZ := hid hz
        clear hz
        go_wp2_with fail
        refine (hzw _).mono ?_
        rintro e w2 ⟨rfl, hb2⟩
        have HBB := hid (HB.out.trans (hb2.mono hsz))
        clear hb2 hc0 hc1 hl hzw
        go_wp2_with fail
        go_ret
        exact ⟨⟨(k : Int), rfl, .inr ⟨k, by rw [HL.out]; exact hlt, rfl, by rw [← HY.out]; exact HZ.out, HT.out⟩⟩, HBB.out⟩
      · have hzw := zero_w y
        rw [decide_eq_false hz] at hzw
        have HZ := hid hz
        clear hz
        go_wp2_with fail
        refine (hzw _).mono ?_
        rintro e w2 ⟨rfl, hb2⟩
        have HBB := hid (HB.out.trans (hb2.mono hsz))
        clear hb2 hc0 hc1 hl hzw
        go_wp2_with fail
        go_roundw
        case rel =>
          refine ⟨k + 1, by omega, by go_num, ?_, HBB.out⟩
          rw [HKL.out]
          intro x hx
          rcases List.mem_append.1 hx with hx | hx
          · exact HT.out x hx
          · rw [List.mem_singleton.1 hx, ← HY.out]; exact HZ.out
        case measure => simp [RowKit.intOf]; omega
    · obtain rfl : k = n := by omega
      have HR := hid (show ∀ x ∈ rs, x.1 ≠ 0 from fun x hx => HT.out x (by rw [List.take_of_length_le (by rw [HL.out]; exact Nat.le_refl _)]; exact hx))
      clear hl
      go_wp2_with fail
      go_ret
      exact ⟨⟨-1, rfl, .inl ⟨rfl, HR.out⟩⟩, HB.out⟩
/-- 'clear' of places -/
theorem clear_refs (w : World) (b o n c : Nat) (hn : 0 < n) (hc : ∀ j, j < n * 2 → (w.cell? ⟨b, o + j, none⟩).isSome = true) (hf : ∀ j, j < n * 2 → w.frozen? ⟨b, o + j, none⟩ = false) :
    ∃ vs, ∀ ty, (Builtin.clear_ #[87] ty #[.slice (some ⟨b, o, none⟩) n c]).run Tryz.prog w = .ok (.tuple #[]) (w.setCells b o vs) := by
  have hz := zeroRef
  obtain ⟨vs, hvs⟩ : ∃ vs, vs = (Builtin.zeroCells #[.int .i64 0, .int .u32 0] n).toList := ⟨_, rfl⟩
  have hlen : vs.length = n * 2 := by rw [hvs]; simp [Builtin.zeroCells]
  have hone : ∀ v ∈ vs, v.oneCell' = true := by
    intro v hv
    rw [hvs] at hv
    simp [Builtin.zeroCells] at hv
    obtain ⟨j, _, hv⟩ := hv
    have : j % 2 = 0 ∨ j % 2 = 1 := by omega
    rcases this with h | h <;> simp [h] at hv <;> subst hv <;> rfl
  have hst := run_storeCells_cells (P := Tryz.prog) b o vs 0 w (by rw [hlen]; simpa using hc) (by rw [hlen]; simpa using hf) hone
  simp only [Nat.add_zero] at hst
  obtain ⟨m, rfl⟩ : ∃ m, n = m + 1 := ⟨n - 1, by omega⟩
  refine ⟨vs, fun ty => ?_⟩
  rw [hvs] at hst ⊢
  simp [Builtin.clear_, run_underlying Tryz.underlying87, hz, Value.cells, hst]
theorem tcnt_succ (T : List Ref) (j : Nat) (h : j < T.length) : tcnt (T.take (j + 1)) = tcnt (T.take j) + (if T[j].1 = 0 then 0 else 1) := by
  unfold tcnt
  rw [List.take_succ_eq_append_getElem h, List.countP_append]
  by_cases h0 : T[j].1 = 0 <;> simp [h0]
theorem tcnt_all {T : List Ref} (h : ∀ x ∈ T, x.1 ≠ 0) : tcnt T = T.length := by
  unfold tcnt
  rw [List.countP_eq_length]
  intro x hx
  simpa using h x hx
theorem own_frozen {w : World} {base : Nat} {e : TypeId} {size g n c : Nat} {xs : List Value} (h : w.ownsRow base e size (.slice (some ⟨g, 0, none⟩) n c) n xs) (j : Nat) : w.frozen? ⟨g, j, none⟩ = false := by
  rcases h.2 with ⟨e0, _⟩ | ⟨g', c', cur, hv, hb, hc, q⟩
  · cases e0
  · cases hv
    simp [World.frozen?, hc]
theorem own_refs {w : World} {base g n c : Nat} {L : List (Int × Nat)} (h : OwnRefs w base (.slice (some ⟨g, 0, none⟩) n c) n L) : Refs w (some ⟨g, 0, none⟩) n c L := (Row.owned h).2
set_option maxHeartbeats 1600000 in
theorem delz_w (base g n c : Nat) (rs : List (Int × Nat)) (w : World) (h : OwnRefs w base (.slice (some ⟨g, 0, none⟩) n c) n rs) (hn : n ≤ 1000) (hb : base ≤ w.heap.size) :
    Calls Tryz.prog 121 #[.slice (some ⟨g, 0, none⟩) n c, zv] w fun e w' => (∃ a c', e = .returned (.slice a (tcnt rs) c')) ∧ Below base w w' := by
  have hr := own_refs h
  have hlen := hr.len
  have hbd := hr.bound
  have hgb : base ≤ g := (h.lt g rfl).1
  have HL := hid hlen
  go_enter Tryz.func121, Tryz.ntmps121
  go_wp2_with fail
  refine (zindex_w (some ⟨g, 0, none⟩) n c rs w hr).mono ?_
  rintro e w1 ⟨⟨r, rfl, hcase⟩, b1⟩
  rcases hcase with ⟨rfl, hall⟩ | ⟨k, hk, rfl, hz, hpre⟩
  · have HC := hid (tcnt_all hall)
    clear hr h
    go_wp2_with fail
    go_ret
    exact ⟨⟨some ⟨g, 0, none⟩, c, by rw [HC.out, HL.out]; rfl⟩, b1.mono hb⟩
  · have hk' : k < n := by omega
    have h1 : OwnRefs w1 base (.slice (some ⟨g, 0, none⟩) n c) n rs := ownsRow_below h b1
    have hT : tcnt (rs.take (k + 1)) = k := by
      rw [tcnt_succ rs k hk, if_pos hz, tcnt_all hpre, List.length_take]
      omega
    have B1 : Below base w w1 := b1.mono hb
    have HT := hid hT
    have hkn : (((k : Nat) : Int) == -1) = false := by rw [beq_eq_false_iff_ne]; omega
    have HS := hid (tcnt_succ rs)
    clear hT hr h hz hpre b1
    go_wp2_with fail
    go_loopw [5, 6] (fun iv jv wr => ∃ (i j : Nat), iv = .int .i64 i ∧ jv = .int .i64 j ∧ i < j ∧ j ≤ n ∧ tcnt (rs.take j) = i ∧ ∃ (L : List (Int × Nat)), OwnRefs wr base (.slice (some ⟨g, 0, none⟩) n c) n L ∧ L.length = n ∧ (∀ q, j ≤ q → L[q]? = rs[q]?) ∧ Below base w wr) (fun _ jv _ => n - (RowKit.intOf jv).toNat)
    case atStart => exact ⟨k, k + 1, rfl, by go_num, by omega, by omega, HT.out, rs, h1, hlen, fun q _ => rfl, B1⟩
    case round =>
      clear h1 B1
      obtain ⟨i, j, rfl, rfl, hij, hjn, hti, L, own, hLl, hq, hbel⟩ := hrel
      have HTI := hid hti
      have HQ := hid hq
      have HB := hid hbel
      have hsz := hbel.size
      clear hti hq hbel
      by_cases hlt : j < n
      · have hjr : j < rs.length := by omega
        have hjL : j < L.length := by omega
        have hiL : i < L.length := by omega
        obtain ⟨bx, ox, e, x0, x1⟩ := (own_refs own).at hjL
        cases e
        rw [Nat.zero_add] at x0 x1
        have hy : L[j] = rs[j] := by
          have := HQ.out j (Nat.le_refl _)
          rw [List.getElem?_eq_getElem hjL, List.getElem?_eq_getElem hjr] at this
          exact Option.some.inj this
        rw [hy] at x0 x1
        have hs := HS.out j hjr
        obtain ⟨y, hye⟩ : ∃ y, y = rs[j] := ⟨_, rfl⟩
        rw [← hye] at x0 x1 hs
        have HS1 := hid hs
        have bx := (Below.refl base wr).alloc (by omega) (.cells #[.int .i64 y.1, .int .u32 (y.2 : Int)] 111)
        have own2 : OwnRefs (wr.alloc (.cells #[.int .i64 y.1, .int .u32 (y.2 : Int)] 111)) base (.slice (some ⟨g, 0, none⟩) n c) n L := World.ownsRow.alloc own _
        have HX := hid bx
        have z1 : (wr.alloc (.cells #[.int .i64 y.1, .int .u32 (y.2 : Int)] 111)).heap.size = wr.heap.size + 1 := by simp
        obtain ⟨r0, r1⟩ := new2 wr (.int .i64 y.1) (.int .u32 (y.2 : Int)) 111
        have HZ1 := hid z1
        clear hs hye hy own z1 bx
        by_cases hz : y.1 = 0
        · have hzw := zero_w y
          rw [decide_eq_true hz] at hzw
          rw [if_pos hz] at HS1
          clear hz
          go_wp2_with fail
          refine (hzw _).mono ?_
          rintro e w2 ⟨rfl, hb2⟩
          have own3 : OwnRefs w2 base (.slice (some ⟨g, 0, none⟩) n c) n L := ownsRow_below own2 hb2
          have HBB := hid (HB.out.trans (HX.out.trans (hb2.mono (by simp; omega))))
          clear hb2 own2 x0 x1 r0 r1 hzw
          go_wp2_with fail
          go_roundw
          case rel => exact ⟨i, j + 1, rfl, by go_num, by omega, by omega, by rw [HS1.out, HTI.out]; rfl, L, own3, hLl, fun q hq => HQ.out q (by omega), HBB.out⟩
          case measure => simp [RowKit.intOf]; omega
        · have hzw := zero_w y
          rw [decide_eq_false hz] at hzw
          rw [if_neg hz] at HS1
          clear hz
          go_wp2_with fail
          refine (hzw _).mono ?_
          rintro e w2 ⟨rfl, hb2⟩
          have own3 : OwnRefs w2 base (.slice (some ⟨g, 0, none⟩) n c) n L := ownsRow_below own2 hb2
          have q0 := kept hb2 r0
          have q1 := kept hb2 r1
          obtain ⟨bi, oi, e, y0, y1⟩ := (own_refs own3).at hiL
          cases e
          rw [Nat.zero_add] at y0 y1
          have f0 := own_frozen own3 (i * 2)
          have f1 := own_frozen own3 (i * 2 + 1)
          have HO := hid (own_ref own3 i y)
          have HBB := hid (((HB.out.trans (HX.out.trans (hb2.mono (by simp; omega)))).setCell (p := ⟨g, i * 2, none⟩) hgb (.int .i64 y.1)).setCell (p := ⟨g, i * 2 + 1, none⟩) hgb (.int .u32 (y.2 : Int)))
          clear hb2 own2 x0 x1 r0 r1 own3 hzw
          go_wp2_with fail
          go_roundw
          case rel => exact ⟨i + 1, j + 1, by go_num, by go_num, by omega, by omega, by rw [HS1.out, HTI.out], L.set i y, HO.out, by rw [List.length_set]; exact hLl, fun q hq => by rw [List.getElem?_set_ne (by omega)]; exact HQ.out q (by omega), HBB.out⟩
          case measure => simp [RowKit.intOf]; omega
      · obtain rfl : j = n := by omega
        have hti : tcnt rs = i := by rw [← HTI.out, List.take_of_length_le (by omega)]
        have hcells : ∀ q, q < j * 2 → (wr.cell? ⟨g, q, none⟩).isSome = true := by
          intro q hq
          obtain ⟨u, hu⟩ : ∃ u, (refCells L)[q]? = some u := ⟨(refCells L)[q]'(by rw [refCells_length]; omega), List.getElem?_eq_getElem _⟩
          have := Row.cell (own_refs own) hu
          rw [Nat.zero_add] at this
          rw [this]
          rfl
        obtain ⟨vs, hrun⟩ := clear_refs wr g (i * 2) (j - i) (c - i) (by omega) (fun q hq => hcells _ (by omega)) (fun q hq => own_frozen own _)
        have HE := hid (Lib.below_setCells g hgb vs (i * 2) HB.out)
        have HTE := hid hti
        have hjc : j ≤ c := hbd.1
        have hc9 := hbd.2
        clear hti hcells own HB HTI
        go_wp2
        go_ret
        exact ⟨⟨some ⟨g, 0, none⟩, c, by rw [HTE.out]; rfl⟩, HE.out⟩
theorem count_w (b n c : Nat) (rs : List (Int × Nat)) (w : World) (h : Refs w (some ⟨b, 0, none⟩) n c rs) (hn : n ≤ 1000) :
    Calls Tryz.prog 89 #[.slice (some ⟨b, 0, none⟩) n c] w fun e w' => e = .returned (.int .i64 (tcnt rs : Nat)) ∧ Below w.heap.size w w' := by
  obtain ⟨t, ht⟩ : ∃ t, t = tcnt rs := ⟨_, rfl⟩
  rw [← ht]
  go_enter Tryz.func89, Tryz.ntmps89
  go_wp2_with fail
  refine (cloneRefs_w b 0 n c rs w h (by omega)).mono ?_
  rintro e w1 ⟨g, cap, rfl, own, b1⟩
  go_wp2_with fail
  refine (delz_w w.heap.size g n cap rs w1 own hn b1.size).mono ?_
  rintro e w2 ⟨⟨a, c', rfl⟩, b2⟩
  have hB := b1.trans b2
  rw [← ht]
  clear own b1 b2 h ht
  go_wp2
  go_ret
  exact ⟨rfl, hB⟩
end Go.Proofs.YtbjfgdahfpfgdaaGreatDoor.PgW

namespace Go.Proofs.YtbjfgdahfpfgdaaGreatDoor.PgW
open Go Go.RowKit Go.Maps Go.Proofs.YtbjfgdahfpfgdaaGreatDoor.Mem Go.Proofs.YtbjfgdahfpfgdaaGreatDoor.MapsW Go.Proofs.YtbjfgdahfpfgdaaGreatDoor.SeeW Go.Proofs.YtbjfgdahfpfgdaaGreatDoor.DevG Go.Proofs.YtbjfgdahfpfgdaaGreatDoor.PairG Go.Proofs.YtbjfgdahfpfgdaaGreatDoor.RefsW Go.Proofs.YtbjfgdahfpfgdaaGreatDoor.PgP Go.Proofs.YtbjfgdahfpfgdaaGreatDoor.ConcatW
set_option linter.unusedVariables false
set_option maxRecDepth 100000

abbrev isP (i : Int) : Bool := decide (0 ≤ i) && decide (i < 256)
theorem is_w (i : Int) (w : World) : Calls Tryz.prog 47 #[.int .i64 i] w fun e w' => e = .returned (.bool (isP i)) ∧ w' = w := by
  go_enter Tryz.func47, Tryz.ntmps47
  cases h1 : decide (0 ≤ i) <;> cases h2 : decide (i < 256) <;> (go_wp2; go_ret; exact ⟨by simp [isP, h1, h2], rfl⟩)
theorem there_w (lo n : Nat) (m : Mp) (D : Dv) (I : Si) (S : St) (i : Int) (w : World) (k : SAt w lo n m D I S) (hi : Fits i) :
    Calls Tryz.prog 59 #[ptr I.s, .int .i64 i] w fun e w' => e = .returned (.bool (S.there i)) ∧ w' = w := by
  obtain ⟨c0, c1, c2, c3, c4, c5, c6, c7, fz⟩ := k.c
  obtain ⟨ka, ha⟩ := k.at_
  obtain ⟨ko, ho⟩ := k.now
  have l4 := ha.look hi
  have hfl : ∀ (r : Int × Nat) w, (Instr.field 111 (refV r) 0).run Tryz.prog w = .ok (.int .i64 r.1) w := fun r w => by kernel_rfl
  unfold St.there
  cases hN : S.now i with
  | none =>
    have l5 := ho.ok_none hi hN
    have hd := fun w => hfl ((S.at_ i).getD (0, 0)) w
    generalize (S.at_ i).getD (0, 0) = r at *
    clear ha ho k hN
    go_enter Tryz.func59, Tryz.ntmps59
    go_wp2
    go_ret
    exact ⟨rfl, rfl⟩
  | some l =>
    cases l with
    | nil =>
      have l5 := ho.ok_nil hi hN
      clear ha ho k hN l4
      go_enter Tryz.func59, Tryz.ntmps59
      go_wp2
      go_ret
      exact ⟨rfl, rfl⟩
    | cons x l =>
      obtain ⟨g, cap, l5, _, _⟩ := ho.ok_some hi hN
      have hd : decide ((0 : Int) < ((l.length + 1 : Nat) : Int)) = true := decide_eq_true (by omega)
      have hd2 : decide (0 < (x :: l).length) = true := decide_eq_true (by simp)
      obtain ⟨q, hq⟩ : ∃ q, q = l.length + 1 := ⟨_, rfl⟩
      rw [← hq] at l5 hd
      have hd3 : decide (0 < q) = true := decide_eq_true (by omega)
      clear ha ho k hN l4 hq hd
      simp only [hd2]
      go_enter Tryz.func59, Tryz.ntmps59
      go_wp2
      go_ret
      exact ⟨rfl, rfl⟩
/-- the pages below k -/
def psOf (S : St) (k : Nat) : List Nat := (List.range k).filter fun (p : Nat) => S.there (p : Int)
theorem psOf_succ (S : St) (k : Nat) : psOf S (k + 1) = psOf S k ++ (if S.there (k : Int) then [k] else []) := by
  unfold psOf
  rw [List.range_succ, List.filter_append]
  cases h : S.there (k : Int) <;> simp [h]
theorem psOf_le (S : St) (k : Nat) : (psOf S k).length ≤ k := by
  unfold psOf
  have := List.length_filter_le (fun (p : Nat) => S.there (p : Int)) (List.range k)
  simpa using this
set_option maxHeartbeats 3200000 in
theorem pages_w (lo n : Nat) (m : Mp) (D : Dv) (I : Si) (S : St) (w : World) (k : SAt w lo n m D I S) :
    Calls Tryz.prog 45 #[ptr I.s] w fun e w' => (∃ a c, e = .returned (.slice a (psOf S 256).length c) ∧ Nums .i64 w' a (psOf S 256).length c (psOf S 256)) ∧ Below w.heap.size w w' := by
  have HK := hid k
  have HS := hid (psOf_succ S)
  have HL := hid (psOf_le S)
  have h0 : psOf S 0 = [] := rfl
  generalize hps : psOf S = ps at *
  clear k hps
  go_enter Tryz.func45, Tryz.ntmps45
  go_wp2
  go_loopw [3, 5] (fun v i wr => ∃ j : Nat, j ≤ 256 ∧ i = .int .i64 j ∧ wr.ownsRow w.heap.size 3 1 v (ps j).length (nums .i64 (ps j)) ∧ Below w.heap.size w wr) (fun _ i _ => 256 - (RowKit.intOf i).toNat)
  case atStart => exact ⟨0, by omega, rfl, by rw [h0]; exact World.ownsRow_nil _ _ _ _, Below.refl _ _⟩
  case round =>
    obtain ⟨j, hj, rfl, own, hb⟩ := hrel
    have HB := hid hb
    by_cases hlt : j < 256
    · have ht := there_w lo n m D I S j wr (HK.out.below hb) (by unfold Fits; omega)
      have hs := HS.out j
      have hle := HL.out j
      obtain ⟨va, vc, rfl, hvr⟩ := ownsRow_slice own
      cases hc : S.there (j : Int) with
      | false =>
        rw [hc] at hs ht
        have hs' : ps (j + 1) = ps j := by rw [hs]; simp
        clear hb hle hc hvr hs
        go_wp2_with (refine ht.mono ?_; rintro e w' ⟨rfl, rfl⟩)
        go_roundw
        case rel => exact ⟨j + 1, by omega, by go_num, by rw [hs']; exact own, HB.out⟩
        case measure => simp [RowKit.intOf]; omega
      | true =>
        rw [hc] at hs ht
        have hs' : ps (j + 1) = ps j ++ [j] := by rw [hs]; simp
        have HS' := hid hs'
        have hz := hb.size
        clear hc hvr hs hs' hb
        go_wp2_with fail
        refine ht.mono ?_
        rintro e w' ⟨rfl, rfl⟩
        go_wp2_with (at_builtin; go_must (refine wpList_push elInt rfl _ _ rfl w.heap.size _ _ _ rfl (own.alloc _) w'.heap.size (.int .i64 (j : Int)) rfl (by simp) rfl (by unfold maxLen; omega) (by omega) (by simp; omega) ?_); intro v3 w3 o3 hb3 hg3)
        go_roundw
        case rel => exact ⟨j + 1, by omega, by go_num, by rw [HS'.out, List.length_append]; simpa [nums] using o3, HB.out.trans (((Below.refl _ _).alloc hz _).trans hb3)⟩
        case measure => simp [RowKit.intOf]; omega
    · obtain rfl : j = 256 := by omega
      obtain ⟨va, vc, rfl, hvr⟩ := ownsRow_slice own
      go_wp2
      go_ret
      exact ⟨⟨va, vc, rfl, hvr⟩, HB.out⟩
/-- a store with another map of changes -/
theorem SAt.fresh {w : World} {lo n : Nat} {m : Mp} {D : Dv} {I : Si} {S : St} (k : SAt w lo n m D I S) {w1 : World} (h1 : Below w.heap.size w w1) {o' k' : Nat} (ho : NowMap w1 lo o' n (fun _ => none) k') (hlo : w.heap.size ≤ o') :
    SAt (w1.setCell ⟨I.s, 6, none⟩ (.map (some o'))) lo n m D { I with o := o' } { S with now := fun _ => none } ∧ Turn [I.s] w (w1.setCell ⟨I.s, 6, none⟩ (.map (some o'))) := by
  have k1 := k.below h1
  have hsz := h1.size
  obtain ⟨n1, n2, n3, n4, n5⟩ := k.ne
  obtain ⟨ka, ha⟩ := k1.at_
  have hlt := k.own_lt
  have hbl := ho.block
  have ht : Turn [I.s] w1 (w1.setCell ⟨I.s, 6, none⟩ (.map (some o'))) := Turn.setCell w1 I.s 6 _ (by simp)
  have htx := k1.tx
  have hc := k1.cells
  have hnu : ∀ x ∈ [I.s], ∀ off z, w1.cell? ⟨x, off, none⟩ ≠ some (.int .u8 z) := fun x hx => k1.nou8 x (by rw [List.mem_singleton.1 hx]; simp)
  refine ⟨⟨k1.pr.away ht (fun x hx => ?_) (fun x hx => .inr ?_), ?_, refs_turn k1.refs ht fun b o e hm => ?_, refs_turn k1.tabs ht fun b o e hm => ?_, ⟨ka, ref_turn ha ht (by simpa using fun e => n2 e.symm)⟩, ⟨k', now_turn ho ht (by have := k.slt; simp; omega) hnu⟩, ?_, k1.sx, k1.ax, ?_, fun b off e => ?_, ?_, ⟨k1.slo.1, k1.slo.2.1, ?_⟩⟩, (Turn.of_below h1).then ht⟩
  · rw [List.mem_singleton.1 hx]
    intro hm
    rcases List.mem_cons.1 hm with e | hm
    · exact n1 e
    · exact k.sx hm
  · rw [List.mem_singleton.1 hx]
    exact ⟨_, k1.c.1, fun z e => by cases e⟩
  · simp [World.setCell, Array.getElem?_modify, hc]
  · have h2 := (k1.rx b o e).2
    rw [List.mem_singleton.1 hm] at h2
    simp at h2
  · cases e
    rw [List.mem_singleton.1 hm] at htx
    simp at htx
  · have := hlt I.a (by simp)
    show I.a ≠ o'
    omega
  · intro hm
    have := hlt o' (by simp only [List.mem_cons]; exact .inr (.inr (.inr (.inr (List.mem_cons.1 hm)))))
    omega
  · obtain ⟨h3, h4⟩ := k.rx b off e
    refine ⟨by have := ht.size; omega, ?_⟩
    simp only [List.mem_cons, not_or] at h4 ⊢
    obtain ⟨q1, q2, q3, q4, q5⟩ := h4
    exact ⟨q1, q2, q3, by omega, q5⟩
  · have h3 : I.tb < w.heap.size := by
      obtain ⟨b', o', e, hc, _⟩ := k.tabs.at (j := 0) (by rw [k.tabs.len]; decide)
      cases e
      exact World.block_lt_of_cell? _ _ hc
    have h4 := k.tx
    simp only [List.mem_cons, not_or] at h4 ⊢
    obtain ⟨q1, q2, q3, q4, q5⟩ := h4
    exact ⟨q1, q2, q3, by omega, q5⟩
  · have := k.own_lo I.s (by simp)
    have := k.slt
    show lo ≤ o'
    omega
end Go.Proofs.YtbjfgdahfpfgdaaGreatDoor.PgW
