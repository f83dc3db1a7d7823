/- The walk of root.Save. -/
import Derived.Test.YtlljpljfmaaejaaDoorRootFound
import Derived.Test.YtlljpljfmaaejaaDoorGDevFlush
namespace Go.Proofs.YtlljpljfmaaejaaDoor.DevG
open Go Go.RowKit Go.Maps Go.Proofs.YtlljpljfmaaejaaDoor.Mem Go.Proofs.YtlljpljfmaaejaaDoor.MapsW
set_option linter.unusedVariables false
set_option maxRecDepth 100000

theorem At.old {w : World} {lo d n : Nat} {m : Mp} {D : Dv} (h : At w lo d n m D) : ∀ x ∈ own d m, x < w.heap.size := by
  intro x hx
  rcases List.mem_cons.1 hx with rfl | hx
  · exact h.dlt
  · obtain ⟨es, ck, hb⟩ := h.maps x hx
    exact (Array.getElem?_eq_some_iff.1 hb).1
/-- a device behind a write that was told well -/
def Dv.wrote (D : Dv) (p : Nat) (l : List Nat) : Dv := D.tick.put p l
theorem Dv.wrote_np (D : Dv) (p : Nat) (l : List Nat) : (D.wrote p l).np ≤ D.np + 1 ∧ (D.wrote p l).calls = D.calls + 1 ∧ (D.wrote p l).blocks = D.blocks ∧ (D.wrote p l).fuse ≤ D.fuse := by
  have h := D.tick_same
  unfold Dv.wrote Dv.put
  refine ⟨?_, by simp [h.2.2.2.2.2.2.2.2.1], by simp [h.1], by simp [h.2.2.2.2.2.2.2.2.2]⟩
  simp only
  split
  · rw [h.2.2.2.2.2.2.1]; omega
  · rw [h.2.2.2.2.2.2.1]; omega
/-- a root saved: what is told, what the device has then -/
def Dv.save (D : Dv) (H ep : Nat) (b : List Nat) : Option Nat × Dv :=
  if D.tick.down then (some 5, D.tick) else
  if (D.wrote (ep % 2) b).tick.down then (some 5, (D.wrote (ep % 2) b).tick) else
  ((D.wrote (ep % 2) b).wrote (ep % 2 + H) b).flushT
/-- .. step by step -/
def Dv.stage (D : Dv) (H ep : Nat) (b : List Nat) : Nat → Dv
  | 0 => D
  | 1 => D.wrote (ep % 2) b
  | _ => (D.wrote (ep % 2) b).wrote (ep % 2 + H) b
theorem Dv.stage_succ (D : Dv) (H ep : Nat) (b : List Nat) (k : Nat) (hk : k < [ep % 2, ep % 2 + H].length) : D.stage H ep b (k + 1) = (D.stage H ep b k).wrote ([ep % 2, ep % 2 + H][k]) b := by
  match k, hk with
  | 0, _ => rfl
  | 1, _ => rfl
theorem Dv.stage_in (D : Dv) (H ep : Nat) (b : List Nat) (k : Nat) : (D.stage H ep b k).np ≤ D.np + 2 ∧ (D.stage H ep b k).calls ≤ D.calls + 2 ∧ (D.stage H ep b k).blocks = D.blocks ∧ (D.stage H ep b k).fuse ≤ D.fuse := by
  have h1 := D.wrote_np (ep % 2) b
  have h2 := (D.wrote (ep % 2) b).wrote_np (ep % 2 + H) b
  unfold Dv.stage
  split
  · exact ⟨by omega, by omega, rfl, Nat.le_refl _⟩
  · exact ⟨by omega, by omega, h1.2.2.1, h1.2.2.2⟩
  · exact ⟨by omega, by omega, h2.2.2.1.trans h1.2.2.1, Nat.le_trans h2.2.2.2 h1.2.2.2⟩
theorem Dv.save_down (D : Dv) (H ep : Nat) (b : List Nat) (k : Nat) (hk : k < 2) (hup : ∀ j, j < k → (D.stage H ep b j).tick.down = false) (hd : (D.stage H ep b k).tick.down = true) : D.save H ep b = (some 5, (D.stage H ep b k).tick) := by
  unfold Dv.save
  match k, hk with
  | 0, _ =>
    simp only [Dv.stage] at hd ⊢
    rw [if_pos hd]
  | 1, _ =>
    have h0 := hup 0 (by decide)
    simp only [Dv.stage] at h0 hd ⊢
    rw [h0, if_neg (by decide), if_pos hd]
theorem Dv.save_up (D : Dv) (H ep : Nat) (b : List Nat) (hup : ∀ j, j < 2 → (D.stage H ep b j).tick.down = false) : D.save H ep b = (D.stage H ep b 2).flushT := by
  unfold Dv.save
  have h0 := hup 0 (by decide)
  have h1 := hup 1 (by decide)
  simp only [Dv.stage] at h0 h1 ⊢
  rw [h0, if_neg (by decide), h1, if_neg (by decide)]
end Go.Proofs.YtlljpljfmaaejaaDoor.DevG
namespace Go.Proofs.YtlljpljfmaaejaaDoor.RootW
open Go Go.RowKit Go.Maps Go.Proofs.YtlljpljfmaaejaaDoor.Mem Go.Proofs.YtlljpljfmaaejaaDoor.MapsW Go.Proofs.YtlljpljfmaaejaaDoor.RootP Go.Proofs.YtlljpljfmaaejaaDoor.SeeW Go.Proofs.YtlljpljfmaaejaaDoor.RefsW Go.Proofs.YtlljpljfmaaejaaDoor.DevG Go.Proofs.YtlljpljfmaaejaaDoor.ConcatW
set_option linter.unusedVariables false
set_option maxRecDepth 100000

theorem nums_turn {k : IntKind} {S : List Nat} {w w' : World} {a : Option Addr} {n cap : Nat} {l : List Nat} (h : Nums k w a n cap l) (ht : Turn S w w') (hS : ∀ b o, a = some ⟨b, o, none⟩ → b ∉ S) : Nums k w' a n cap l :=
  Row.keep h fun b o e hlt => ht.block b hlt (hS b o e)
theorem cell_turn {S : List Nat} {w w' : World} {b o : Nat} {v : Value} (h : w.cell? ⟨b, o, none⟩ = some v) (ht : Turn S w w') (hS : b ∉ S) : w'.cell? ⟨b, o, none⟩ = some v :=
  (World.cell?_of_block (ht.block b (World.block_lt_of_cell? w _ h) hS)).trans h
def SaveTo (bs : List Addr) (w : World) (lo d n : Nat) (m : Mp) (r : Option Nat × Dv) (e : Ending) (w' : World) : Prop :=
  (∃ v, Says bs r.1 v ∧ e = .returned v) ∧ ∃ p', (p' = m.p ∨ w.heap.size ≤ p') ∧ At w' lo d n { m with p := p' } r.2 ∧ Turn (own d m) w w'
set_option maxHeartbeats 3200000 in
theorem save_w (bs : List Addr) (d lo n : Nat) (m : Mp) (D : Dv) (ep : Nat) (rs : List (Int × Nat)) (a : Option Addr) (c : Nat) (w : World) (h : At w lo d n m D) (hB : Ev w lo bs six) (hb1 : 300 ≤ D.blocks) (hb2 : D.blocks ≤ 6000) (hl : Refs w a rs.length c rs) (hg : RootP.Good ⟨ep, rs⟩) (hs : ∀ x ∈ rs, x.2 < 4294967296)
    (hn : n < 10000) (hp : D.np < 10000) (hc : D.calls < 900000) (hz : D.fuse ≤ 1000000) :
    Calls Tryd.prog 69 #[ptr d, Rv ep a rs.length c] w (SaveTo bs w lo d (n + 8 + 3 * D.np) m (D.save (GeoW.half D.blocks) ep (enc ⟨ep, rs⟩))) := by
  have bx := (Below.refl w.heap.size w).alloc (Nat.le_refl _) (.cells #[.int .i64 (ep : Int), .slice a rs.length c] 98)
  obtain ⟨x0, x1⟩ := new2 w (.int .i64 (ep : Int)) (.slice a rs.length c) 98
  obtain ⟨H, hH⟩ : ∃ H, H = GeoW.half D.blocks := ⟨_, rfl⟩
  have hH1 := GeoW.half_le D.blocks
  have hH2 := GeoW.half_512 D.blocks
  have hof := fun w => GeoW.of_good D.blocks w hb1 hb2
  rw [← hH] at hH1 hH2 ⊢
  simp only [← hH] at hof
  clear hH
  have h40 := hg.e2
  simp only at h40
  have hby := fun (w : World) (hl : Refs w a rs.length c rs) (hB : Ev w lo bs six) => bytes_ok bs lo ⟨ep, rs⟩ a rs.length c w hl (hB.sub (by decide)) hg hs
  have HOLD := hid h.old
  clear hg
  go_enter Tryd.func69, Tryd.ntmps69
  go_wp2_with fail
  refine (blocks_w d lo n m D _ (h.below bx)).mono ?_
  rintro e w' ⟨rfl, rfl⟩
  go_wp2_with fail
  refine (hof _).mono ?_
  rintro e w1 ⟨rfl, b1⟩
  have B1 := bx.trans (b1.mono bx.size)
  replace x0 := kept b1 x0
  replace x1 := kept b1 x1
  have al := (Below.refl w1.heap.size w1).alloc (Nat.le_refl _) (.cells #[.int .i64 (D.blocks : Int), .int .i64 (H : Int)] 127)
  obtain ⟨g0, g1⟩ := new2 w1 (.int .i64 (D.blocks : Int)) (.int .i64 (H : Int)) 127
  replace x0 := kept al x0
  replace x1 := kept al x1
  have B2 := B1.trans (al.mono B1.size)
  clear b1 al B1 hof
  go_wp2_with fail
  refine (hby _ (hl.below B2) (hB.below B2)).mono ?_
  rintro e w2 ⟨⟨v, rfl, own2⟩, b2⟩
  obtain ⟨gb, cb, rfl, nb, fb⟩ := row_of own2
  have zB := B2.size
  replace x0 := kept b2 x0
  replace g0 := kept b2 g0
  replace g1 := kept b2 g1
  have B3 := B2.trans (b2.mono B2.size)
  have fb' : w.heap.size ≤ gb := Nat.le_trans zB fb
  clear x1 own2 b2 B2 hby fb zB
  go_wp2_with fail
  refine (places_w D.blocks H ep _ (by omega) (by omega)).mono ?_
  rintro e w3 ⟨gp, rfl, np, b3, fp⟩
  have nb3 := nb.below b3
  have fp' : w.heap.size ≤ gp := Nat.le_trans B3.size fp
  have B4 := B3.trans (b3.mono B3.size)
  have h3 := h.below B4
  have hB3 := hB.below B4
  have hlo := h.own_lo
  have ob : gb ∉ own d m := fun hm => by have := HOLD.out gb hm; omega
  have op : gp ∉ own d m := fun hm => by have := HOLD.out gp hm; omega
  clear g0 g1 x0 nb b3 fp B3 h hB hl fb' fp'
  have HI := hid (Dv.stage_in D H ep (enc ⟨ep, rs⟩))
  have HS := hid (Dv.stage_succ D H ep (enc ⟨ep, rs⟩))
  have HD := hid (Dv.save_down D H ep (enc ⟨ep, rs⟩))
  have HU := hid (Dv.save_up D H ep (enc ⟨ep, rs⟩))
  have h0 : At w3 lo d n m (D.stage H ep (enc ⟨ep, rs⟩) 0) := h3
  generalize hst : D.stage H ep (enc ⟨ep, rs⟩) = st at *
  generalize hbe : enc ⟨ep, rs⟩ = b at *
  clear h3 hst hbe hs
  go_wp2_with fail
  go_loopw [33] (fun i wr => ∃ k : Nat, k ≤ 2 ∧ i = .int .i64 k ∧ At wr lo d (n + k) m (st k) ∧ Turn (own d m) w3 wr ∧ ∀ j, j < k → (st j).tick.down = false) (fun i _ => 2 - (intOf i).toNat)
  case atStart => exact ⟨0, by omega, rfl, h0, Turn.refl _ _, fun j hj => by omega⟩
  case round =>
    clear h0
    obtain ⟨k, hk, rfl, h0, hT, hup⟩ := hrel
    have HUP := hid hup
    clear hup
    obtain ⟨i1, i2, i3, i4⟩ := HI.out k
    have nb' := nums_turn nb3 hT (fun b o e => by cases e; exact ob)
    have np' := nums_turn np hT (fun b o e => by cases e; exact op)
    have hB' := hB3.turn hT hlo
    by_cases hlt : k < 2
    · have hkl : k < [ep % 2, ep % 2 + H].length := hlt
      obtain ⟨bq, oq, e, hc'⟩ := np'.at hkl
      cases e
      have HS2 := hid (HS.out k hkl)
      have hin : [ep % 2, ep % 2 + H][k] < D.blocks := by
        have : ∀ x ∈ [ep % 2, ep % 2 + H], x < D.blocks := by simp; omega
        exact this _ (List.getElem_mem hkl)
      generalize [ep % 2, ep % 2 + H][k] = x at hc' HS2 hin
      rw [Nat.zero_add] at hc'
      by_cases hd : (st k).tick.down = true
      · have hw := write_no bs d lo _ m (st k) x (some ⟨gb, 0, none⟩) 256 cb wr h0 (hB'.sub (by decide)) (by omega) (fits_nat (by omega)) 5 _ (by decide) rfl (.inl ⟨hd, rfl⟩)
        have HR := hid (HD.out k hlt HUP.out hd)
        have HT := hid hT
        clear hd nb' np' hB' h0 hT
        go_wp2_with fail
        refine hw.mono ?_
        rintro e w4 ⟨⟨ax, hax, rfl⟩, h4, t4⟩
        go_wp2_with fail
        go_ret
        rw [HR.out]
        exact ⟨⟨_, ⟨ax, hax, rfl⟩, rfl⟩, m.p, .inl rfl, h4.mono (by omega) (Nat.le_refl _), ((Turn.of_below B4).trans HT.out (fun x hx => .inl hx)).then (own1 t4)⟩
      · have hd : (st k).tick.down = false := by simpa using hd
        have hw := write_ok d lo _ m (st k) x _ cb b wr h0 (by omega) (by omega) nb' (by omega) (by omega) (by omega) hd
        have HT := hid hT
        have HUQ := hid (show ∀ j, j < k + 1 → (st j).tick.down = false from fun j hj => (Nat.lt_or_ge j k).elim (fun h => HUP.out j h) (fun h => by rw [show j = k by omega]; exact hd))
        clear hd nb' np' hB' h0 hT
        go_wp2_with fail
        refine hw.mono ?_
        rintro e w4 ⟨rfl, h4, t4⟩
        have H4 := hid h4
        have T4 := hid t4
        clear h4 t4
        go_wp2_with fail
        go_roundw
        case rel => exact ⟨k + 1, by omega, by go_num, by rw [HS2.out]; exact H4.out, HT.out.then T4.out, HUQ.out⟩
        case measure => simp [intOf]; omega
    · obtain rfl : k = 2 := by omega
      have hw := flush_w bs d lo _ m (st 2) wr h0 (hB'.sub (by decide)) (by omega) (by omega) (by omega) (by omega)
      have HR := hid (HU.out HUP.out)
      have HT := hid hT
      clear nb' np' hB' h0 hT
      go_wp2_with fail
      refine hw.mono ?_
      rintro e w4 ⟨⟨v, hv, rfl⟩, p', hp', h4, t4⟩
      have H4 := hid h4
      have T4 := hid t4
      clear h4 t4
      go_wp2_with fail
      go_ret
      rw [HR.out]
      exact ⟨⟨v, hv, rfl⟩, p', hp'.imp id (fun h => by have := HT.out.size; have := B4.size; omega), H4.out.mono (by omega) (Nat.le_refl _), ((Turn.of_below B4).trans HT.out (fun x hx => .inl hx)).then T4.out⟩
end Go.Proofs.YtlljpljfmaaejaaDoor.RootW
