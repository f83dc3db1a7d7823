/- The walk of dev's Crash; Plain facts: a commit whose power goes; what there is behind the crash; What the laws on devices begin with: a block of one byte; A device of which some writes are pending behind a flush and a fault; odd; Plain facts: a save of a root whose flush found the power gone, one copy kept; The walks of breviaryref.SameRef and SameRefs; The walks of breviarylaw6's made and same; Plain facts: roots saved one behind the other, the last save cut off at any call; Plain facts: what stands behind a commit cut short, and behind an Open cut short. -/
import Derived.Test.YtbjfgdahfpfgdaaGreatDoorKeepFaultsP8
import Derived.Test.YtbjfgdahfpfgdaaGreatDoorKeepFaultsP3
import Derived.Test.YtbjfgdahfpfgdaaGreatDoorKeepFaultsP9
import Derived.Test.YtbjfgdahfpfgdaaGreatDoorKeepFaultsP18
import Derived.Test.YtbjfgdahfpfgdaaGreatDoorKeepFaultsP17
import Derived.Test.YtbjfgdahfpfgdaaGreatDoorKeepFaultsP12
import Derived.Test.YtbjfgdahfpfgdaaGreatDoorKeepFaultsP4
import Derived.Deep.RegionHeld3
import Derived.Test.YtbjfgdahfpfgdaaGreatDoorKeepFaultsP5
namespace Go.Proofs.YtbjfgdahfpfgdaaGreatDoor.DevG
open Go Go.RowKit Go.Maps Go.Proofs.YtbjfgdahfpfgdaaGreatDoor.Mem Go.Proofs.YtbjfgdahfpfgdaaGreatDoor.MapsW Go.Proofs.YtbjfgdahfpfgdaaGreatDoor.Ints
set_option linter.unusedVariables false
set_option maxRecDepth 100000

theorem own_turn {S : List Nat} {w w' : World} {base : Nat} {e : TypeId} {size : Nat} {v : Value} {n : Nat} {xs : List Value} (h : w.ownsRow base e size v n xs) (T : Turn S w w') (hS : ∀ x ∈ S, x < base ∨ w.heap.size ≤ x) : w'.ownsRow base e size v n xs := by
  rcases h with ⟨h1, h2 | ⟨g, c, cur, e1, hb, hg, r⟩⟩
  · exact ⟨h1, .inl h2⟩
  · refine ⟨h1, .inr ⟨g, c, cur, e1, hb, T.cells hg (fun hm => ?_), r⟩⟩
    have hlt := (Array.getElem?_eq_some_iff.1 hg).1
    rcases hS g hm with q | q <;> omega
theorem At.olds {w : World} {lo d n : Nat} {m : Mp} {D : Dv} (h : At w lo d n m D) : ∀ x ∈ own d m, x < w.heap.size := by
  intro x hx
  rcases List.mem_cons.1 hx with rfl | hx
  · exact h.dlt
  · obtain ⟨es, ck, hb⟩ := h.maps x hx
    exact (Array.getElem?_eq_some_iff.1 hb).1
/-- does the k-th pick keep? -/
def pick (zs : List Int) (k : Nat) : Bool := match zs[k]? with
  | some z => bits .and .i64 z 1 == 1
  | none => false
/-- k of the pending blocks gone through -/
def Dv.layUp (D : Dv) (ks zs : List Int) : Nat → Dv
  | 0 => D
  | k + 1 => if pick zs k then (D.layUp ks zs k).lay (ks.getD k 0) ((D.pe (ks.getD k 0)).getD []) else D.layUp ks zs k
theorem Dv.layUp_same (D : Dv) (ks zs : List Int) (k : Nat) : (D.layUp ks zs k).pe = D.pe ∧ (D.layUp ks zs k).np = D.np ∧ (D.layUp ks zs k).blocks = D.blocks ∧ (D.layUp ks zs k).calls = D.calls ∧ (D.layUp ks zs k).ev = D.ev ∧ (D.layUp ks zs k).ne = D.ne := by
  induction k with
  | zero => exact ⟨rfl, rfl, rfl, rfl, rfl, rfl⟩
  | succ k ih =>
    unfold Dv.layUp
    split
    · exact ih
    · exact ih
/-- is a block kept? -/
def sel (ks zs : List Int) (i : Int) : Bool := (List.range ks.length).any fun k => pick zs k && decide (ks.getD k 0 = i)
def selUp (ks zs : List Int) (k : Nat) (i : Int) : Bool := (List.range k).any fun k => pick zs k && decide (ks.getD k 0 = i)
theorem Dv.layUp_is (D : Dv) (ks zs : List Int) (k : Nat) (hp : ∀ i ∈ ks, (D.pe i).isSome = true) (hk : k ≤ ks.length) (i : Int) :
    (D.layUp ks zs k).fl i = (if selUp ks zs k i then D.pe i else D.fl i) ∧ (D.layUp ks zs k).fa i = (if selUp ks zs k i then false else D.fa i) ∧ (D.layUp ks zs k).fi i = (if selUp ks zs k i then false else D.fi i) := by
  induction k with
  | zero => exact ⟨rfl, rfl, rfl⟩
  | succ k ih =>
    obtain ⟨h1, h2, h3⟩ := ih (by omega)
    have e : selUp ks zs (k + 1) i = (selUp ks zs k i || (pick zs k && decide (ks.getD k 0 = i))) := by
      unfold selUp; rw [List.range_succ, List.any_append]; simp
    rw [e]
    unfold Dv.layUp
    cases hpk : pick zs k with
    | false => simp only [Bool.false_and, Bool.or_false]; exact ⟨h1, h2, h3⟩
    | true =>
      simp only [Bool.true_and]
      have hx : (D.pe (ks.getD k 0)).isSome = true := by
        refine hp _ ?_
        rw [List.getD_eq_getElem?_getD, List.getElem?_eq_getElem (by omega)]
        exact List.getElem_mem _
      simp only [if_true]
      have up : ∀ {α : Type} (F : Int → α) (x : α), upd F (ks.getD k 0) x i = if ks.getD k 0 = i then x else F i := fun F x => by
        by_cases q : ks.getD k 0 = i
        · rw [if_pos q, ← q, upd_same]
        · rw [if_neg q, upd_other _ _ (fun e => q e.symm)]
      refine ⟨?_, ?_, ?_⟩
      · show upd (D.layUp ks zs k).fl (ks.getD k 0) (some ((D.pe (ks.getD k 0)).getD [])) i = _
        rw [up, h1]
        by_cases q : ks.getD k 0 = i
        · rw [if_pos q, decide_eq_true q, Bool.or_true, if_pos rfl, ← q]
          cases hy : D.pe (ks.getD k 0) with
          | none => rw [hy] at hx; cases hx
          | some l => rfl
        · rw [if_neg q, decide_eq_false q, Bool.or_false]
      · show upd (D.layUp ks zs k).fa (ks.getD k 0) false i = _
        rw [up, h2]
        by_cases q : ks.getD k 0 = i
        · rw [if_pos q, decide_eq_true q, Bool.or_true, if_pos rfl]
        · rw [if_neg q, decide_eq_false q, Bool.or_false]
      · show upd (D.layUp ks zs k).fi (ks.getD k 0) false i = _
        rw [up, h3]
        by_cases q : ks.getD k 0 = i
        · rw [if_pos q, decide_eq_true q, Bool.or_true, if_pos rfl]
        · rw [if_neg q, decide_eq_false q, Bool.or_false]
/-- what a device has behind Crash -/
def Dv.crash (D : Dv) (ks zs : List Int) : Dv :=
  { D with fl := fun i => if sel ks zs i then D.pe i else D.fl i, fa := fun i => if sel ks zs i then false else D.fa i, fi := fun i => if sel ks zs i then false else D.fi i, pe := fun _ => none, np := 0, down := false, fuse := 0 }
theorem Dv.same {X Y : Dv} (h1 : X.blocks = Y.blocks) (h2 : X.fl = Y.fl) (h3 : X.pe = Y.pe) (h4 : X.fa = Y.fa) (h5 : X.fi = Y.fi) (h6 : X.ev = Y.ev) (h7 : X.np = Y.np) (h8 : X.ne = Y.ne) (h9 : X.calls = Y.calls) (h10 : X.fuse = Y.fuse) (h11 : X.down = Y.down) : X = Y := by
  cases X; cases Y
  cases h1; cases h2; cases h3; cases h4; cases h5; cases h6; cases h7; cases h8; cases h9; cases h10; cases h11
  rfl
theorem Dv.crash_eq (D : Dv) (ks zs : List Int) (hp : ∀ i ∈ ks, (D.pe i).isSome = true) : { (D.layUp ks zs ks.length) with pe := fun _ => none, np := 0, down := false, fuse := 0 } = D.crash ks zs := by
  obtain ⟨s1, s2, s3, s4, s5, s6⟩ := D.layUp_same ks zs ks.length
  have h := D.layUp_is ks zs ks.length hp (Nat.le_refl _)
  exact Dv.same s3 (funext fun i => (h i).1) rfl (funext fun i => (h i).2.1) (funext fun i => (h i).2.2) s5 rfl s6 s4 rfl rfl
set_option maxHeartbeats 3200000 in
theorem crash_w (d lo n : Nat) (m : Mp) (D : Dv) (a : Option Addr) (len cap : Nat) (zs : List Int) (w : World) (h : At w lo d n m D) (hz : ∀ w', Turn (own d m) w w' → Is w' a len cap zs) (hnp : D.np ≤ 1000) (hn : n < 600000) :
    Calls Tryz.prog 31 #[ptr d, .slice a len cap] w fun e w' => e = .returned (.tuple #[]) ∧ ∃ ks p', Keys D.pe ks ∧ w.heap.size ≤ p' ∧ At w' lo d (n + 3 * D.np) { m with p := p' } (D.crash ks zs) ∧ Turn (own d m) w w' := by
  have hmm := @run_makeMap Tryz.prog
  have OLD := hid h.olds
  obtain ⟨c0, c1, c2, c3, c4, c5, c6, c7, c8, f6, f2, f7, f8⟩ := h.c
  have b1 := (Below.refl w.heap.size w).alloc (Nat.le_refl _) (.cells #[.map (some m.p)] 91)
  have hs := keys_sorted m.p n w.heap.size 0 D.np D.pe (w.alloc (.cells #[.map (some m.p)] 91)) (by simp) (by simp) (h.below b1).rp (by omega)
  have hlen := (hz w (Turn.refl _ _)).len
  obtain ⟨q1, q2⟩ := (hz w (Turn.refl _ _)).bound
  go_enter Tryz.func31, Tryz.ntmps31
  go_wp2_with fail
  refine (keys_w (some m.p) w).mono ?_
  rintro e w1 ⟨rfl, rfl⟩
  go_wp2_with fail
  refine hs.mono ?_
  rintro e w2 ⟨v, ks, rfl, hK, hkl, own2, b2⟩
  have B2 := b1.trans (b2.mono (by simp))
  have T2 := hid (Turn.of_below (S := own d m) B2)
  have H2 := hid (h.below B2)
  obtain ⟨va, vc, rfl, hvr⟩ := ownsRow_slice own2
  have KS := hid hK
  have OW := hid own2
  have hvl : Is w2 va ks.length vc ks := hvr
  obtain ⟨q3, q4⟩ := hvl.bound
  clear hs b1 b2 B2 hK own2 hvr hvl c0 c1 c2 c3 c4 c5 c6 c7 c8 f6 f2 f7 f8
  go_wp2_with fail
  go_loopw [13] (fun iv wr => ∃ k : Nat, k ≤ ks.length ∧ iv = .int .i64 (k : Int) ∧ At wr lo d (n + 3 * k) m (D.layUp ks zs k) ∧ Turn (own d m) w2 wr) (fun iv _ => ks.length - (RowKit.intOf iv).toNat)
  case atStart => exact ⟨0, by omega, rfl, H2.out, Turn.refl _ _⟩
  case round =>
    obtain ⟨k, hk, rfl, ha, ht⟩ := hrel
    obtain ⟨s1, s2, s3, s4, s5, s6⟩ := D.layUp_same ks zs k
    obtain ⟨c0, c1, c2, c3, c4, c5, c6, c7, c8, f6, f2, f7, f8⟩ := ha.c
    by_cases hlt : k < ks.length
    · have hV : Is wr va ks.length vc ks := (Row.owned (own_turn OW.out ht fun x hx => .inl (by have := OLD.out x hx; simp; omega))).2
      obtain ⟨b0, o0, rfl, hv0⟩ := hV.at hlt
      have hin := (KS.out.mem ks[k]).1 (List.getElem_mem hlt)
      have hgd : ks.getD k 0 = ks[k] := by rw [List.getD_eq_getElem?_getD, List.getElem?_eq_getElem hlt]; rfl
      have hZ := hz wr (T2.out.then ht)
      have hfz : Fits ks[k] := KS.out.fit _ (List.getElem_mem hlt)
      obtain ⟨l, hl⟩ := Option.isSome_iff_exists.1 hin
      obtain ⟨g, gc, hlk, hng, hgb⟩ := ha.rp.look_some hfz (s1 ▸ hl)
      have HU := hid (show D.layUp ks zs (k + 1) = if pick zs k then (D.layUp ks zs k).lay ks[k] l else D.layUp ks zs k by
        rw [← hgd] at hl ⊢
        show (if pick zs k then (D.layUp ks zs k).lay (ks.getD k 0) ((D.pe (ks.getD k 0)).getD []) else _) = _
        rw [hl]; rfl)
      generalize ks[k] = z at *
      by_cases hkz : k < len
      · have hkz' : k < zs.length := by rw [hlen]; exact hkz
        obtain ⟨b1, o1, rfl, hz0⟩ := hZ.at hkz'
        have hpk : pick zs k = (bits .and .i64 zs[k] 1 == 1) := by unfold pick; rw [List.getElem?_eq_getElem hkz']
        generalize zs[k] = y at *
        cases hby : (bits .and .i64 y 1 == 1)
        · have HP := hid (hpk.trans hby)
          have HA := hid ha
          have HT := hid ht
          clear hpk ha ht hZ hV hlk hng hgb s1 s2 s3 s4 s5 s6
          go_wp2_with fail
          go_roundw
          case rel => exact ⟨k + 1, by omega, by go_num, by rw [HU.out, HP.out]; exact HA.out.mono (by omega) (Nat.le_refl _), HT.out⟩
          case measure => simp [RowKit.intOf]; omega
        · have HP := hid (hpk.trans hby)
          have HT := hid ht
          have hlay := lay_w d lo _ m _ z g gc l wr ha hfz hng (by omega) (by omega)
          clear hpk ht hZ hV hng hgb s1 s2 s3 s4 s5 s6 ha
          go_wp2_with fail
          refine hlay.mono ?_
          rintro e w3 ⟨rfl, h3, t3⟩
          have T3 := hid (HT.out.then (t3.mono (S' := own d m) (by simp [own, Mp.list])))
          have H3 := hid h3
          clear hlay h3 t3
          go_wp2_with fail
          go_roundw
          case rel => exact ⟨k + 1, by omega, by go_num, by rw [HU.out, HP.out]; exact H3.out.mono (by omega) (Nat.le_refl _), T3.out⟩
          case measure => simp [RowKit.intOf]; omega
      · have HP := hid (show pick zs k = false by unfold pick; rw [List.getElem?_eq_none (by omega)])
        have HA := hid ha
        have HT := hid ht
        clear ha ht hZ hV hlk hng hgb s1 s2 s3 s4 s5 s6
        go_wp2_with fail
        go_roundw
        case rel => exact ⟨k + 1, by omega, by go_num, by rw [HU.out, HP.out]; exact HA.out.mono (by omega) (Nat.le_refl _), HT.out⟩
        case measure => simp [RowKit.intOf]; omega
    · obtain rfl : k = ks.length := by omega
      have hr0 := RowMap.made wr 0
      have b5 := (Below.refl wr.heap.size wr).alloc (Nat.le_refl _) (.map #[] 0)
      have ha5 := ha.below b5
      have hsw := ha5.swapP (hr0.mono (n' := n + 3 * ks.length) (by omega) (Nat.le_refl _)) (by have := ha.dlt; have := ha.lod; omega) (fun hm => by have := ha.olds wr.heap.size (List.mem_cons_of_mem _ hm); omega)
      obtain ⟨z0, z1, z2, z3, z4, z5, z6, z7, z8, g6, g2, g7, g8⟩ := ha5.c
      have hs8 := hsw.setDown false
      have hs7 := hs8.setFuse 0
      have HT2 := hid ((((T2.out.then ht).then (Turn.of_below b5)).then (Turn.setCell _ d 2 (.map (some wr.heap.size)) (mem_own d m).1)).then (Turn.setCell _ d 8 (.bool false) (mem_own d m).1) |>.then (Turn.setCell _ d 7 (.int .i64 ((0 : Nat) : Int)) (mem_own d m).1))
      have hsz := (T2.out.then ht).size
      have hce := D.crash_eq ks zs (fun i hi => (KS.out.mem i).1 hi)
      have HS := hid (show At ((((wr.alloc (.map #[] 0)).setCell ⟨d, 2, none⟩ (.map (some wr.heap.size))).setCell ⟨d, 8, none⟩ (.bool false)).setCell ⟨d, 7, none⟩ (.int .i64 ((0 : Nat) : Int))) lo d (n + 3 * ks.length) { m with p := wr.heap.size } (D.crash ks zs) by rw [← hce]; exact hs7)
      clear hs7 hs8 hsw hr0 ha5 ha ht b5 hce
      go_wp2_with fail
      refine bodyPost_end (v := .tuple #[]) (by simp [results, Tryz.results31, go_sem]) rfl ?_
      rw [hkl] at HS
      exact ⟨rfl, ks, wr.heap.size, KS.out, by omega, HS.out, HT2.out⟩
end Go.Proofs.YtbjfgdahfpfgdaaGreatDoor.DevG

namespace Go.Proofs.YtbjfgdahfpfgdaaGreatDoor.PgW
open Go Go.RowKit Go.Maps Go.Proofs.YtbjfgdahfpfgdaaGreatDoor.Mem Go.Proofs.YtbjfgdahfpfgdaaGreatDoor.RootP Go.Proofs.YtbjfgdahfpfgdaaGreatDoor.MapsW Go.Proofs.YtbjfgdahfpfgdaaGreatDoor.PgP Go.Proofs.YtbjfgdahfpfgdaaGreatDoor.DevG Go.Proofs.YtbjfgdahfpfgdaaGreatDoor.RootW
set_option linter.unusedVariables false
set_option maxRecDepth 100000

theorem tick_up {D : Dv} (h : D.down = false) (ht : D.tick.down = false) : D.tick = { D with fuse := D.tick.fuse } := by
  unfold Dv.tick at ht ⊢
  by_cases hc : (!D.down && decide (0 < D.fuse)) = true
  · rw [if_pos hc] at ht ⊢
    obtain ⟨a1, a2, a3, a4, a5, a6, a7, a8, a9, a10, a11⟩ := D
    simp only at h ht ⊢
    subst h
    rw [ht]
  · rw [if_neg hc]
theorem tick_zero0 {D : Dv} (h : D.fuse = 0) : D.tick.fuse = 0 := by rw [Dv.tick_zero h]; exact h
/-- what fell: nothing flushed; what is pending is among P -/
structure Fell (D E : Dv) (N : Nat) (P : Int → List Nat → Prop) : Prop where
  down : E.down = true
  fl : E.fl = D.fl
  fi : E.fi = D.fi
  bl : E.blocks = D.blocks
  fa : E.fa = D.fa
  np : E.np ≤ D.np + N
  cl : E.calls ≤ D.calls + N
  pe : ∀ i l, E.pe i = some l → P i l
theorem puts_fuse (H f : Nat) : ∀ (ws : List (Nat × List Nat)) (D : Dv), puts { D with fuse := f } H ws = { puts D H ws with fuse := f }
  | [], D => rfl
  | b :: ws, D => puts_fuse H f ws ((D.put (b.1 : Int) b.2).put ((b.1 + H : Nat) : Int) b.2)
theorem put_np (D : Dv) (i : Int) (l : List Nat) : (D.put i l).np ≤ D.np + 1 := by
  show (if (D.pe i).isSome then D.np else D.np + 1) ≤ _
  split <;> omega
theorem wall_f (H : Nat) : ∀ (ws : List (Nat × List Nat)) (D : Dv), D.down = false →
    (∃ f, wall D H ws = (none, { puts D H ws with fuse := f }) ∧ f ≤ D.fuse ∧ (D.fuse = 0 → f = 0)) ∨
    (∃ E, wall D H ws = (some 5, E) ∧ 0 < D.fuse ∧ Fell D E (2 * ws.length) fun i l => D.pe i = some l ∨ ∃ b ∈ ws, b.2 = l ∧ (i = (b.1 : Int) ∨ i = ((b.1 + H : Nat) : Int)))
  | [], D, _ => .inl ⟨D.fuse, rfl, Nat.le_refl _, id⟩
  | b :: ws, D, hd => by
    have hpos : D.tick.down = true → 0 < D.fuse := fun ht => by
      rcases Nat.eq_zero_or_pos D.fuse with h0 | h0
      · rw [Dv.tick_zero h0, hd] at ht; cases ht
      · exact h0
    have ts := D.tick_same
    cases ht : D.tick.down with
    | true =>
      refine .inr ⟨D.tick, ?_, hpos ht, ⟨ht, ts.2.1, ts.2.2.2.2.1, ts.1, ts.2.2.2.1, by rw [ts.2.2.2.2.2.2.1]; omega, by rw [ts.2.2.2.2.2.2.2.2.1]; omega, fun i l h => .inl (by rw [← ts.2.2.1]; exact h)⟩⟩
      unfold wall wpair
      rw [ht, if_pos rfl]
    | false =>
      have e1 := tick_up hd ht
      have hw1 : DevG.Dv.wrote D b.1 b.2 = { D.put (b.1 : Int) b.2 with fuse := D.tick.fuse } := by unfold DevG.Dv.wrote; rw [e1]; rfl
      obtain ⟨W, hW⟩ : ∃ W, W = DevG.Dv.wrote D b.1 b.2 := ⟨_, rfl⟩
      have hWd : W.down = false := by rw [hW, hw1]; exact hd
      have hWf : W.fuse = D.tick.fuse := by rw [hW, hw1]
      have tw := W.tick_same
      cases ht2 : W.tick.down with
      | true =>
        have hp2 : 0 < D.fuse := by
          rcases Nat.eq_zero_or_pos D.fuse with h0 | h0
          · have : W.fuse = 0 := by rw [hWf]; exact tick_zero0 h0
            rw [Dv.tick_zero this, hWd] at ht2; cases ht2
          · exact h0
        have hnp := put_np D (b.1 : Int) b.2
        refine .inr ⟨W.tick, ?_, hp2, ⟨ht2, tw.2.1.trans (by rw [hW, hw1]; rfl), tw.2.2.2.2.1.trans (by rw [hW, hw1]; rfl), tw.1.trans (by rw [hW, hw1]; rfl), tw.2.2.2.1.trans (by rw [hW, hw1]; rfl), ?_, ?_, fun i l h => ?_⟩⟩
        · unfold wall wpair
          rw [ht, if_neg (by decide), ← hW, ht2, if_pos rfl]
        · rw [tw.2.2.2.2.2.2.1, hW, hw1]
          show (D.put (b.1 : Int) b.2).np ≤ _
          rw [List.length_cons]
          omega
        · rw [tw.2.2.2.2.2.2.2.2.1, hW, hw1]
          show D.calls + 1 ≤ _
          rw [List.length_cons]
          omega
        · rw [tw.2.2.1, hW, hw1] at h
          change upd D.pe (b.1 : Int) (some b.2) i = some l at h
          by_cases e : i = (b.1 : Int)
          · rw [e, upd_same] at h
            exact .inr ⟨b, by simp, Option.some.inj h, .inl e⟩
          · rw [upd_other _ _ e] at h
            exact .inl h
      | false =>
        have e2 := tick_up hWd ht2
        have hw2 : wpair D H b.1 b.2 = (none, { (D.put (b.1 : Int) b.2).put ((b.1 + H : Nat) : Int) b.2 with fuse := W.tick.fuse }) := by
          unfold wpair wstage
          rw [ht, if_neg (by decide), ← hW, ht2, if_neg (by decide)]
          unfold DevG.Dv.wrote
          rw [e2, hW, hw1]
          rfl
        have hfl : W.tick.fuse ≤ D.fuse := by have := tw.2.2.2.2.2.2.2.2.2; have := ts.2.2.2.2.2.2.2.2.2; omega
        have hfz : D.fuse = 0 → W.tick.fuse = 0 := fun h0 => tick_zero0 (by rw [hWf]; exact tick_zero0 h0)
        obtain ⟨D2, hD2⟩ : ∃ D2, D2 = (D.put (b.1 : Int) b.2).put ((b.1 + H : Nat) : Int) b.2 := ⟨_, rfl⟩
        have hnp : D2.np ≤ D.np + 2 := by
          have h1 := put_np D (b.1 : Int) b.2
          have h2 := put_np (D.put (b.1 : Int) b.2) ((b.1 + H : Nat) : Int) b.2
          rw [hD2]; omega
        have hwl : wall D H (b :: ws) = wall { D2 with fuse := W.tick.fuse } H ws := by
          show (match wpair D H b.1 b.2 with | (none, D') => wall D' H ws | (some q, D') => (some q, D')) = _
          rw [hw2, hD2]
        rw [hwl]
        rcases wall_f H ws { D2 with fuse := W.tick.fuse } (by rw [hD2]; exact hd) with ⟨f, g1, g2, g3⟩ | ⟨E, g1, g2, g3⟩
        · refine .inl ⟨f, ?_, Nat.le_trans g2 hfl, fun h0 => g3 (hfz h0)⟩
          rw [g1, puts_cons, ← hD2, puts_fuse]
        · refine .inr ⟨E, g1, ?_, ⟨g3.down, g3.fl.trans (by rw [hD2]; rfl), g3.fi.trans (by rw [hD2]; rfl), g3.bl.trans (by rw [hD2]; rfl), g3.fa.trans (by rw [hD2]; rfl), ?_, ?_, fun i l h => ?_⟩⟩
          · have h2 : 0 < W.tick.fuse := g2
            omega
          · have := g3.np
            have h5 : ({ D2 with fuse := W.tick.fuse } : Dv).np = D2.np := rfl
            rw [List.length_cons]; omega
          · have := g3.cl
            have h5 : ({ D2 with fuse := W.tick.fuse } : Dv).calls = D.calls + 2 := by rw [hD2]; rfl
            rw [List.length_cons]; omega
          · rcases g3.pe i l h with h' | ⟨c, hc, h1, h2⟩
            · change D2.pe i = some l at h'
              rw [hD2] at h'
              change upd (upd D.pe _ _) _ _ i = some l at h'
              by_cases e2 : i = ((b.1 + H : Nat) : Int)
              · rw [e2, upd_same] at h'
                exact .inr ⟨b, by simp, Option.some.inj h', .inr e2⟩
              · rw [upd_other _ _ e2] at h'
                by_cases e1 : i = (b.1 : Int)
                · rw [e1, upd_same] at h'
                  exact .inr ⟨b, by simp, Option.some.inj h', .inl e1⟩
                · rw [upd_other _ _ e1] at h'
                  exact .inl h'
            · exact .inr ⟨c, by simp [hc], h1, h2⟩
theorem flushT_f (D : Dv) (hd : D.down = false) : (∃ f, D.flushT = (none, { D.flush with fuse := f }) ∧ f ≤ D.fuse ∧ (D.fuse = 0 → f = 0)) ∨ (D.flushT = (some 5, D.tick) ∧ 0 < D.fuse ∧ D.tick.down = true) := by
  unfold DevG.Dv.flushT
  cases ht : D.tick.down with
  | true =>
    refine .inr ⟨by rw [if_pos rfl], ?_, rfl⟩
    rcases Nat.eq_zero_or_pos D.fuse with h0 | h0
    · rw [Dv.tick_zero h0, hd] at ht; cases ht
    · exact h0
  | false =>
    refine .inl ⟨D.tick.fuse, ?_, D.tick_same.2.2.2.2.2.2.2.2.2, tick_zero0⟩
    rw [if_neg (by decide)]
    have e := tick_up hd ht
    show (none, D.tick.flush) = (none, _)
    rw [e]
    rfl
theorem save_eq (D : Dv) (H ep : Nat) (b : List Nat) : D.save H ep b = match wall D H [(ep % 2, b)] with | (none, D') => D'.flushT | (some q, D') => (some q, D') := by
  unfold DevG.Dv.save wall wall wpair wstage
  by_cases h1 : D.tick.down = true
  · rw [if_pos h1, if_pos h1]
  · rw [if_neg h1, if_neg h1]
    by_cases h2 : (DevG.Dv.wrote D (ep % 2) b).tick.down = true
    · rw [if_pos h2, if_pos h2]
    · rw [if_neg h2, if_neg h2]
      rfl
/-- pairs written and flushed over an idle device whose fuse may burn -/
theorem wf_f {D : Dv} (h : D.Idle) (H k : Nat) (ws : List (Nat × List Nat)) :
    (∃ f, (match wall { D with fuse := k } H ws with | (none, D') => D'.flushT | (some q, D') => (some q, D')) = (none, { (puts D H ws).flush with fuse := f }) ∧ f ≤ k ∧ (k = 0 → f = 0)) ∨
    (∃ E, (match wall { D with fuse := k } H ws with | (none, D') => D'.flushT | (some q, D') => (some q, D')) = (some 5, E) ∧ 0 < k ∧ Fell D E (2 * ws.length) fun i l => ∃ b ∈ ws, b.2 = l ∧ (i = (b.1 : Int) ∨ i = ((b.1 + H : Nat) : Int))) := by
  obtain ⟨p1, p2, p3, p4, p5, p6, p7⟩ := puts_same H ws D
  rcases wall_f H ws { D with fuse := k } h.down with ⟨f, g1, g2, g3⟩ | ⟨E, g1, g2, g3⟩
  · rw [g1, puts_fuse]
    show (∃ f', Dv.flushT { puts D H ws with fuse := f } = _ ∧ _) ∨ (∃ E, Dv.flushT { puts D H ws with fuse := f } = _ ∧ _)
    rcases flushT_f { puts D H ws with fuse := f } (by show (puts D H ws).down = false; rw [p1]; exact h.down) with ⟨f', q1, q2, q3⟩ | ⟨q1, q2, q3⟩
    · have q2' : f' ≤ f := q2
      have g2' : f ≤ k := g2
      exact .inl ⟨f', q1, by omega, fun h0 => q3 (g3 h0)⟩
    · have q2' : 0 < f := q2
      have g2' : f ≤ k := g2
      have tw := Dv.tick_same ({ puts D H ws with fuse := f } : Dv)
      refine .inr ⟨_, q1, by omega, ⟨q3, tw.2.1.trans p3, tw.2.2.2.2.1.trans p4, tw.1.trans p6, tw.2.2.2.1.trans p5, ?_, ?_, fun i l hp => ?_⟩⟩
      · rw [tw.2.2.2.2.2.2.1]
        show (puts D H ws).np ≤ _
        clear g1 q1 q3 tw g2 g3 q2
        have : ∀ (ws : List (Nat × List Nat)) (D : Dv), (puts D H ws).np ≤ D.np + 2 * ws.length := by
          intro ws
          induction ws with
          | nil => intro D; exact Nat.le_refl _
          | cons b ws ih =>
            intro D
            have h1 := put_np D (b.1 : Int) b.2
            have h2 := put_np (D.put (b.1 : Int) b.2) ((b.1 + H : Nat) : Int) b.2
            have h3 := ih ((D.put (b.1 : Int) b.2).put ((b.1 + H : Nat) : Int) b.2)
            rw [puts_cons, List.length_cons]
            omega
        exact this ws D
      · rw [tw.2.2.2.2.2.2.2.2.1]
        show (puts D H ws).calls ≤ _
        omega
      · rw [tw.2.2.1] at hp
        rcases puts_only H i l ws D hp with h' | ⟨c, hc, h1, h2⟩
        · rw [h.pe] at h'; cases h'
        · exact ⟨c, hc, h1, h2⟩
  · rw [g1]
    refine .inr ⟨E, rfl, g2, ⟨g3.down, g3.fl, g3.fi, g3.bl, g3.fa, g3.np, g3.cl, fun i l hp => ?_⟩⟩
    rcases g3.pe i l hp with h' | h'
    · have : D.pe i = some l := h'
      rw [h.pe] at this; cases this
    · exact h'
/-- behind a crash: each block is as it was, or as it was to be -/
structure Crashed (D F : Dv) (P : Int → List Nat → Prop) : Prop where
  idle : F.Idle
  bl : F.blocks = D.blocks
  fa : ∀ i, D.fa i = false → F.fa i = false
  rd : ∀ i, F.read i = D.read i ∨ ∃ l, P i l ∧ F.read i = some l
theorem sel_some {F : Int → Option (List Nat)} {ks zs : List Int} (hK : Keys F ks) {i : Int} (h : sel ks zs i = true) : ∃ l, F i = some l := by
  unfold sel at h
  obtain ⟨x, hx, hx2⟩ := List.any_eq_true.1 h
  rw [Bool.and_eq_true, decide_eq_true_eq] at hx2
  have hxl := List.mem_range.1 hx
  have hm : i ∈ ks := by
    rw [← hx2.2, List.getD_eq_getElem?_getD, List.getElem?_eq_getElem hxl]
    exact List.getElem_mem _
  exact Option.isSome_iff_exists.1 ((hK.mem i).1 hm)
theorem crashed {D E : Dv} (hD : D.Idle) (hfl : E.fl = D.fl) (hfi : E.fi = D.fi) (hbl : E.blocks = D.blocks) (hfa : E.fa = D.fa) {P : Int → List Nat → Prop} (hpe : ∀ i l, E.pe i = some l → P i l) (hb : ∀ i l, P i l → Crc.Bytes l) {ks zs : List Int} (hK : Keys E.pe ks) : Crashed D (E.crash ks zs) P := by
  have hid : (E.crash ks zs).Idle := ⟨rfl, rfl, rfl, fun _ => rfl, fun i l hl => by
    change (if sel ks zs i then E.pe i else E.fl i) = some l at hl
    by_cases c : sel ks zs i = true
    · rw [if_pos c] at hl; exact hb i l (hpe i l hl)
    · rw [if_neg c, hfl] at hl; exact hD.fl i l hl⟩
  refine ⟨hid, hbl, fun i h0 => (by
    show (if sel ks zs i then false else E.fa i) = false
    split
    · rfl
    · rw [hfa]; exact h0), fun i => ?_⟩
  rw [hid.read, hD.read]
  unfold keptOf
  show (if (if sel ks zs i then false else E.fi i) then none else some ((if sel ks zs i then E.pe i else E.fl i).getD _)) = _ ∨ ∃ l, P i l ∧ (if (if sel ks zs i then false else E.fi i) then none else some ((if sel ks zs i then E.pe i else E.fl i).getD _)) = _
  by_cases c : sel ks zs i = true
  · obtain ⟨l, hl⟩ := sel_some hK c
    right
    refine ⟨l, hpe i l hl, ?_⟩
    rw [if_pos c, if_pos c, hl]
    rfl
  · left
    rw [if_neg c, if_neg c, hfl, hfi]
theorem Fell.crash {D E : Dv} {N : Nat} {P : Int → List Nat → Prop} (h : Fell D E N P) (hD : D.Idle) (hb : ∀ i l, P i l → Crc.Bytes l) {ks zs : List Int} (hK : Keys E.pe ks) : Crashed D (E.crash ks zs) P := crashed hD h.fl h.fi h.bl h.fa h.pe hb hK
end Go.Proofs.YtbjfgdahfpfgdaaGreatDoor.PgW

namespace Go.Proofs.YtbjfgdahfpfgdaaGreatDoor.DevL
open Go Go.RowKit Go.Maps Go.Proofs.YtbjfgdahfpfgdaaGreatDoor.Mem Go.Proofs.YtbjfgdahfpfgdaaGreatDoor.MapsW Go.Proofs.YtbjfgdahfpfgdaaGreatDoor.SeeW Go.Proofs.YtbjfgdahfpfgdaaGreatDoor.DevG Go.Proofs.YtbjfgdahfpfgdaaGreatDoor.BlobW Go.Proofs.YtbjfgdahfpfgdaaGreatDoor.Ints
set_option linter.unusedVariables false
set_option maxRecDepth 100000

/-- a block of one byte -/
def wh (b : Nat) : List Nat := List.replicate 256 b
theorem Is.nil (w : World) : Is w none 0 0 [] := ⟨rfl, Nat.le_refl _, Nat.zero_le _, fun _ => rfl, fun j u h => by simp [ints] at h⟩
end Go.Proofs.YtbjfgdahfpfgdaaGreatDoor.DevL

namespace Go.Proofs.YtbjfgdahfpfgdaaGreatDoor.DevL
open Go Go.RowKit Go.Maps Go.Proofs.YtbjfgdahfpfgdaaGreatDoor.Mem Go.Proofs.YtbjfgdahfpfgdaaGreatDoor.MapsW Go.Proofs.YtbjfgdahfpfgdaaGreatDoor.SeeW Go.Proofs.YtbjfgdahfpfgdaaGreatDoor.DevG
set_option linter.unusedVariables false
set_option maxRecDepth 100000

/-- block 0 flushed, block 3 failed, k blocks pending -/
def kp (a b : List Nat) (k : Nat) : Dv where
  blocks := 8
  fl := fun i => if i = 0 then some a else none
  pe := fun i => if 0 ≤ i ∧ i < (k : Int) then some b else none
  fa := fun i => decide (i = 3)
  fi := fun i => decide (i = 3)
  ev := fun i => decide (i = 3)
  np := k
  ne := 1
  calls := k + 2
end Go.Proofs.YtbjfgdahfpfgdaaGreatDoor.DevL

namespace Go.Proofs.YtbjfgdahfpfgdaaGreatDoor.DevG
open Go Go.RowKit
end Go.Proofs.YtbjfgdahfpfgdaaGreatDoor.DevG

namespace Go.Proofs.YtbjfgdahfpfgdaaGreatDoor.RootW
open Go Go.RowKit Go.Maps Go.Proofs.YtbjfgdahfpfgdaaGreatDoor.Mem Go.Proofs.YtbjfgdahfpfgdaaGreatDoor.MapsW Go.Proofs.YtbjfgdahfpfgdaaGreatDoor.RootP Go.Proofs.YtbjfgdahfpfgdaaGreatDoor.DevG Go.Proofs.YtbjfgdahfpfgdaaGreatDoor.DevL
set_option linter.unusedVariables false
set_option maxRecDepth 100000

/-- a device on which nothing but elder roots, of the other places, are -/
structure Elder (D : Dv) (H n : Nat) : Prop where
  idle : D.Idle
  old : ∀ s ∈ spots H, ∀ q, oneOf D (s : Int) = some q → q.ep < (n : Int)
  none0 : oneOf D ((n % 2 : Nat) : Int) = none
  none1 : oneOf D ((n % 2 + H : Nat) : Int) = none
theorem Elder.new (b H n : Nat) : Elder (Dv.new b) H n := by
  have h : ∀ i, oneOf (Dv.new b) i = none := fun i => by unfold oneOf; rw [Dv.new_read]; exact parse_zeros
  exact ⟨Dv.Idle.new b, fun s _ q hq => (by rw [h] at hq; cases hq), h _, h _⟩
theorem saved_one {D : Dv} (h : D.Idle) (H : Nat) {r : Rt} (hr : Fine r) (i : Int) :
    oneOf (D.saved H r.ep.toNat (enc r)) i = if i = ((r.ep.toNat % 2 : Nat) : Int) ∨ i = ((r.ep.toNat % 2 + H : Nat) : Int) then some r else oneOf D i := by
  unfold oneOf
  rw [Dv.saved_read h H _ hr.bytes]
  split
  · exact hr.parse
  · rfl
/-- behind a root saved on a new device -/
theorem Elder.one (b H n : Nat) (hH : 2 ≤ H) {r : Rt} (hr : Fine r) (hn : r.ep = (n : Int)) : Elder ((Dv.new b).saved H n (enc r)) H (n + 1) := by
  have e : r.ep.toNat = n := by rw [hn]; exact Int.toNat_natCast n
  have h : ∀ i, oneOf (Dv.new b) i = none := fun i => by unfold oneOf; rw [Dv.new_read]; exact parse_zeros
  have hs := saved_one (Dv.Idle.new b) H hr
  rw [e] at hs
  refine ⟨Dv.saved_idle (Dv.Idle.new b) H n hr.bytes, fun s _ q hq => ?_, ?_, ?_⟩
  · rw [hs, h] at hq
    split at hq
    · cases hq; rw [hn]; omega
    · cases hq
  · rw [hs, if_neg (by omega), h]
  · rw [hs, if_neg (by omega), h]
/-- the save: both written, the flush finds the power gone -/
def cut (D : Dv) (H n : Nat) (b : List Nat) : Dv := { ((D.put ((n % 2 : Nat) : Int) b).put ((n % 2 + H : Nat) : Int) b) with fuse := 0, down := true }
abbrev keptAt (H n : Nat) (second : Bool) : Int := if second then ((n % 2 + H : Nat) : Int) else ((n % 2 : Nat) : Int)
structure Fell (D E : Dv) (c : Int) (b : List Nat) : Prop where
  idle : E.Idle
  read : ∀ i, E.read i = if i = c then some b else D.read i
  blocks : E.blocks = D.blocks
  calls : E.calls = D.calls + 2
theorem Fell.one {D E : Dv} {c : Int} {r : Rt} (h : Fell D E c (enc r)) (hr : Fine r) (i : Int) : oneOf E i = if i = c then some r else oneOf D i := by
  unfold oneOf
  rw [h.read]
  split
  · exact hr.parse
  · rfl
theorem Fell.best {D E : Dv} {H n : Nat} {second : Bool} {r : Rt} (h : Fell D E (keptAt H n second) (enc r)) (hr : Fine r) (hn : r.ep = (n : Int)) (hD : Elder D H n) : bestOf E H = r := by
  have hp : 0 < r.ep := hr.ep.1
  refine best_of hp ?_ fun s hs q hq => ?_
  · have h1 := spot_of H n
    cases second
    · exact ⟨n % 2, h1.1, by rw [h.one hr]; exact if_pos rfl⟩
    · exact ⟨n % 2 + H, h1.2, by rw [h.one hr]; exact if_pos rfl⟩
  · rw [h.one hr] at hq
    split at hq
    · cases hq; exact .inl rfl
    · rw [hn]; exact .inr (hD.old s hs q hq)
theorem Fell.copies {D E : Dv} {H n : Nat} (hH : 0 < H) {second : Bool} {r : Rt} (h : Fell D E (keptAt H n second) (enc r)) (hr : Fine r) (hn : r.ep = (n : Int)) (hD : Elder D H n) : copies E H n = 1 := by
  have e1 : ∀ i : Nat, (i : Int) = keptAt H n second → hasEp E n i = true := fun i hi => by
    unfold hasEp
    rw [h.one hr, if_pos hi]
    exact decide_eq_true hn
  have e0 : ∀ i : Nat, (i : Int) ≠ keptAt H n second → oneOf D (i : Int) = none → hasEp E n i = false := fun i hi ho => by
    unfold hasEp
    rw [h.one hr, if_neg hi, ho]
  unfold RootW.copies copiesUp
  simp only [pair, List.take_succ_cons, List.take_zero, List.countP_cons, List.countP_nil]
  cases second
  · rw [e1 (n % 2) rfl, e0 (n % 2 + H) (by show ((n % 2 + H : Nat) : Int) ≠ ((n % 2 : Nat) : Int); omega) hD.none1]; rfl
  · rw [e0 (n % 2) (by show ((n % 2 : Nat) : Int) ≠ ((n % 2 + H : Nat) : Int); omega) hD.none0, e1 (n % 2 + H) rfl]; rfl
end Go.Proofs.YtbjfgdahfpfgdaaGreatDoor.RootW

namespace Go.Proofs.YtbjfgdahfpfgdaaGreatDoor.RefsW
open Go Go.RowKit Go.Proofs.YtbjfgdahfpfgdaaGreatDoor.Mem
set_option linter.unusedVariables false
set_option maxRecDepth 100000

end Go.Proofs.YtbjfgdahfpfgdaaGreatDoor.RefsW

namespace Go.Proofs.YtbjfgdahfpfgdaaGreatDoor.RootW
open Go Go.RowKit Go.Maps Go.Proofs.YtbjfgdahfpfgdaaGreatDoor.Mem Go.Proofs.YtbjfgdahfpfgdaaGreatDoor.MapsW Go.Proofs.YtbjfgdahfpfgdaaGreatDoor.RootP Go.Proofs.YtbjfgdahfpfgdaaGreatDoor.SeeW Go.Proofs.YtbjfgdahfpfgdaaGreatDoor.RefsW Go.Proofs.YtbjfgdahfpfgdaaGreatDoor.DevG Go.Proofs.YtbjfgdahfpfgdaaGreatDoor.Ints
set_option linter.unusedVariables false
set_option maxRecDepth 100000

def sumOf (z : Int) : Nat := (IntKind.u32.wrap (IntKind.u32.wrap z * 2654435761)).toNat
def refOf (z : Int) : Int × Nat := (z, sumOf z)
/-- a root of an epoch, and of places -/
def madeR (ep : Int) (l : List Int) : Rt := ⟨ep, l.map refOf⟩
theorem wrap_in (x : Int) : 0 ≤ IntKind.u32.wrap x ∧ IntKind.u32.wrap x < 4294967296 := by
  rw [IntKind.wrap_u32]; omega
theorem sumOf_cast (z : Int) : ((sumOf z : Nat) : Int) = IntKind.u32.wrap (IntKind.u32.wrap z * 2654435761) := Int.toNat_of_nonneg (wrap_in _).1
theorem sumOf_lt (z : Int) : sumOf z < 4294967296 := by
  have h := (wrap_in (IntKind.u32.wrap z * 2654435761)).2
  rw [← sumOf_cast] at h
  omega
end Go.Proofs.YtbjfgdahfpfgdaaGreatDoor.RootW

namespace Go.Proofs.YtbjfgdahfpfgdaaGreatDoor.RootW
open Go Go.RowKit Go.Maps Go.Proofs.YtbjfgdahfpfgdaaGreatDoor.Mem Go.Proofs.YtbjfgdahfpfgdaaGreatDoor.MapsW Go.Proofs.YtbjfgdahfpfgdaaGreatDoor.RootP Go.Proofs.YtbjfgdahfpfgdaaGreatDoor.DevG Go.Proofs.YtbjfgdahfpfgdaaGreatDoor.DevL
set_option linter.unusedVariables false
set_option maxRecDepth 100000

/-- the numbers of the i-th root -/
def listOf (l : List Int) (i : Nat) : List Int := if i < l.length then [l.getD i 0 % 5000, (i : Int)] else [(i : Int), 7, 8]
def rs (l : List Int) (i : Nat) : Rt := madeR (i : Int) (listOf l i)
theorem rs_ep (l : List Int) (i : Nat) : (rs l i).ep = (i : Int) ∧ (rs l i).ep.toNat = i := ⟨rfl, Int.toNat_natCast i⟩
theorem rs_fine (l : List Int) {i : Nat} (h1 : 1 ≤ i) (h2 : i ≤ 21) : Fine (rs l i) := by
  refine ⟨(good_iff _).1 ?_, fun x hx => ?_⟩
  · unfold rs listOf amiss badE badR madeR
    split
    · have hm := Int.emod_nonneg (l.getD i 0) (b := 5000) (by decide)
      have hl := Int.emod_lt_of_pos (l.getD i 0) (b := 5000) (by decide)
      simp [refOf]
      omega
    · simp [refOf]
      omega
  · obtain ⟨z, _, rfl⟩ := List.mem_map.1 hx
    exact sumOf_lt z
/-- i roots saved -/
def svs (l : List Int) : Nat → Dv
  | 0 => Dv.new 300
  | i + 1 => (svs l i).saved 75 (i + 1) (enc (rs l (i + 1)))
structure Saves (l : List Int) (n : Nat) (D : Dv) : Prop where
  idle : D.Idle
  blocks : D.blocks = 300
  calls : D.calls ≤ 3 * n
  le : ∀ s ∈ spots 75, ∀ q, oneOf D (s : Int) = some q → q.ep ≤ (n : Int)
  top : 1 ≤ n → oneOf D ((n % 2 : Nat) : Int) = some (rs l n)
  eq : ∀ s ∈ spots 75, ∀ q, oneOf D (s : Int) = some q → q.ep = (n : Int) → q = rs l n
  none : n = 0 → ∀ i, oneOf D i = Option.none
theorem Saves.start (l : List Int) : Saves l 0 (Dv.new 300) := by
  have h : ∀ i, oneOf (Dv.new 300) i = Option.none := fun i => by unfold oneOf; rw [Dv.new_read]; exact parse_zeros
  exact ⟨Dv.Idle.new 300, rfl, Nat.le_refl _, fun s _ q hq => (by rw [h] at hq; cases hq), fun h => absurd h (by decide), fun s _ q hq => (by rw [h] at hq; cases hq), fun _ => h⟩
theorem Saves.next {l : List Int} {n : Nat} {D : Dv} (h : Saves l n D) (hn : n ≤ 20) : Saves l (n + 1) (D.saved 75 (n + 1) (enc (rs l (n + 1)))) := by
  have hf := rs_fine l (i := n + 1) (by omega) (by omega)
  have hs := saved_one h.idle 75 hf
  rw [(rs_ep l (n + 1)).2] at hs
  refine ⟨Dv.saved_idle h.idle 75 _ hf.bytes, h.blocks, by show D.calls + 1 + 1 + 1 ≤ _; have := h.calls; omega, fun s hs' q hq => ?_, fun _ => ?_, fun s hs' q hq he => ?_, fun e => absurd e (by omega)⟩
  · rw [hs] at hq
    split at hq
    · cases hq; exact Int.le_refl _
    · have := h.le s hs' q hq; omega
  · rw [hs]; exact if_pos (.inl rfl)
  · rw [hs] at hq
    split at hq
    · cases hq; rfl
    · have := h.le s hs' q hq; omega
theorem Saves.of (l : List Int) : ∀ n, n ≤ 21 → Saves l n (svs l n)
  | 0, _ => Saves.start l
  | n + 1, h => (Saves.of l n (by omega)).next (by omega)
theorem Saves.best {l : List Int} {n : Nat} {D : Dv} (h : Saves l n D) (h1 : 1 ≤ n) (h2 : n ≤ 21) : bestOf D 75 = rs l n := by
  refine best_of (by rw [(rs_ep l n).1]; omega) ⟨n % 2, (spot_of 75 n).1, h.top h1⟩ fun s hs q hq => ?_
  by_cases e : q.ep = (n : Int)
  · exact .inl (h.eq s hs q hq e)
  · have := h.le s hs q hq
    rw [(rs_ep l n).1]
    exact .inr (by omega)
/-- the device behind k - 1 calls of a save, the power gone -/
def stop (D : Dv) (n : Nat) (b : List Nat) : Nat → Dv
  | 1 => { D with fuse := 0, down := true }
  | 2 => { D.put ((n % 2 : Nat) : Int) b with fuse := 0, down := true }
  | _ => cut D 75 n b
theorem stop_pe {D : Dv} (h : D.Idle) (n : Nat) (b : List Nat) (k : Nat) (i : Int) (q : List Nat) (hq : (stop D n b k).pe i = some q) : q = b ∧ (i = ((n % 2 : Nat) : Int) ∨ i = ((n % 2 + 75 : Nat) : Int)) := by
  unfold stop at hq
  split at hq
  · change D.pe i = some q at hq
    rw [h.pe] at hq; cases hq
  · change upd D.pe ((n % 2 : Nat) : Int) (some b) i = some q at hq
    by_cases e : i = ((n % 2 : Nat) : Int)
    · rw [e, upd_same] at hq; cases hq; exact ⟨rfl, .inl e⟩
    · rw [upd_other _ _ e, h.pe] at hq; cases hq
  · change ((D.put ((n % 2 : Nat) : Int) b).put ((n % 2 + 75 : Nat) : Int) b).pe i = some q at hq
    rw [Dv.saved_pe h 75 n b i] at hq
    split at hq
    · cases hq; exact ⟨rfl, by assumption⟩
    · cases hq
theorem stop_same (D : Dv) (n : Nat) (b : List Nat) (k : Nat) : (stop D n b k).fl = D.fl ∧ (stop D n b k).fi = D.fi ∧ (stop D n b k).blocks = D.blocks ∧ (stop D n b k).calls ≤ D.calls + 2 ∧ (stop D n b k).np ≤ D.np + 2 := by
  have h1 : ∀ (E : Dv) (j : Int), (E.put j b).np ≤ E.np + 1 := fun E j => by
    show (if (E.pe j).isSome then E.np else E.np + 1) ≤ _
    split <;> omega
  unfold stop
  split
  · exact ⟨rfl, rfl, rfl, by show D.calls ≤ _; omega, by show D.np ≤ _; omega⟩
  · exact ⟨rfl, rfl, rfl, by show D.calls + 1 ≤ _; omega, by have := h1 D ((n % 2 : Nat) : Int); show (D.put _ b).np ≤ _; omega⟩
  · exact ⟨rfl, rfl, rfl, by show D.calls + 1 + 1 ≤ _; omega, by have := h1 D ((n % 2 : Nat) : Int); have := h1 (D.put ((n % 2 : Nat) : Int) b) ((n % 2 + 75 : Nat) : Int); show ((D.put _ b).put _ b).np ≤ _; omega⟩
/-- what there is behind the crash: some copies of the last one, else as it was -/
structure Rest (D E : Dv) (n : Nat) (b : List Nat) : Prop where
  idle : E.Idle
  blocks : E.blocks = D.blocks
  read : ∃ K : Int → Bool, (∀ i, K i = true → i = ((n % 2 : Nat) : Int) ∨ i = ((n % 2 + 75 : Nat) : Int)) ∧ ∀ i, E.read i = if K i then some b else D.read i
theorem rest {D : Dv} (h : D.Idle) (n : Nat) {b : List Nat} (hb : Crc.Bytes b) (k : Nat) {ks zs : List Int} (hK : Keys (stop D n b k).pe ks) : Rest D ((stop D n b k).crash ks zs) n b := by
  obtain ⟨s1, s2, s3, _, _⟩ := stop_same D n b k
  have hsel : ∀ i, sel ks zs i = true → (stop D n b k).pe i = some b ∧ (i = ((n % 2 : Nat) : Int) ∨ i = ((n % 2 + 75 : Nat) : Int)) := fun i hi => by
    unfold sel at hi
    obtain ⟨x, hx, hx2⟩ := List.any_eq_true.1 hi
    rw [Bool.and_eq_true, decide_eq_true_eq] at hx2
    have hxl := List.mem_range.1 hx
    have hm : i ∈ ks := by
      rw [← hx2.2, List.getD_eq_getElem?_getD, List.getElem?_eq_getElem hxl]
      exact List.getElem_mem _
    obtain ⟨q, hq⟩ := Option.isSome_iff_exists.1 ((hK.mem i).1 hm)
    obtain ⟨rfl, h2⟩ := stop_pe h n b k i q hq
    exact ⟨hq, h2⟩
  have hid : ((stop D n b k).crash ks zs).Idle := ⟨rfl, rfl, rfl, fun _ => rfl, fun i l hl => by
    change (if sel ks zs i then (stop D n b k).pe i else (stop D n b k).fl i) = some l at hl
    by_cases c : sel ks zs i = true
    · rw [if_pos c, (hsel i c).1] at hl; cases hl; exact hb
    · rw [if_neg c, s1] at hl; exact h.fl i l hl⟩
  refine ⟨hid, s3, sel ks zs, fun i hi => (hsel i hi).2, fun i => ?_⟩
  rw [hid.read, h.read]
  unfold keptOf
  show (if (if sel ks zs i then false else (stop D n b k).fi i) then none else some ((if sel ks zs i then (stop D n b k).pe i else (stop D n b k).fl i).getD _)) = _
  by_cases c : sel ks zs i = true
  · rw [if_pos c, if_pos c, if_pos c, (hsel i c).1]; rfl
  · rw [if_neg c, if_neg c, if_neg c, s1, s2]
/-- the last one, or the one ahead, or none ahead of the first -/
theorem Rest.best {l : List Int} {n : Nat} {D E : Dv} (hD : Saves l n D) (hn : n ≤ 20) (h : Rest D E (n + 1) (enc (rs l (n + 1)))) : bestOf E 75 = rs l (n + 1) ∨ (1 ≤ n ∧ bestOf E 75 = rs l n) ∨ (n = 0 ∧ bestOf E 75 = ⟨0, []⟩) := by
  obtain ⟨K, hK, hR⟩ := h.read
  have hf := rs_fine l (i := n + 1) (by omega) (by omega)
  have ho : ∀ i, oneOf E i = if K i then some (rs l (n + 1)) else oneOf D i := fun i => by
    unfold oneOf
    rw [hR]
    cases K i
    · rfl
    · exact hf.parse
  by_cases hk : ∃ s ∈ spots 75, K (s : Int) = true
  · obtain ⟨s, hs, hk⟩ := hk
    refine .inl (best_of (by rw [(rs_ep l (n + 1)).1]; omega) ⟨s, hs, by rw [ho, hk]; rfl⟩ fun s' hs' q hq => ?_)
    rw [ho] at hq
    split at hq
    · cases hq; exact .inl rfl
    · have := hD.le s' hs' q hq
      rw [(rs_ep l (n + 1)).1]
      exact .inr (by omega)
  · have hk0 : ∀ s ∈ spots 75, K (s : Int) = false := fun s hs => by
      cases h : K (s : Int)
      · rfl
      · exact absurd ⟨s, hs, h⟩ hk
    have ho' : ∀ s ∈ spots 75, oneOf E (s : Int) = oneOf D (s : Int) := fun s hs => by rw [ho, hk0 s hs]; rfl
    rcases Nat.eq_zero_or_pos n with h0 | h0
    · exact .inr (.inr ⟨h0, best_none fun s hs => by rw [ho' s hs]; exact hD.none h0 _⟩)
    · refine .inr (.inl ⟨h0, best_of (by rw [(rs_ep l n).1]; omega) ⟨n % 2, (spot_of 75 n).1, by rw [ho' _ (spot_of 75 n).1]; exact hD.top h0⟩ fun s hs q hq => ?_⟩)
      rw [ho' s hs] at hq
      by_cases e : q.ep = (n : Int)
      · exact .inl (hD.eq s hs q hq e)
      · have := hD.le s hs q hq
        rw [(rs_ep l n).1]
        exact .inr (by omega)
end Go.Proofs.YtbjfgdahfpfgdaaGreatDoor.RootW

namespace Go.Proofs.YtbjfgdahfpfgdaaGreatDoor.PgW
open Go Go.RowKit Go.Maps Go.Proofs.YtbjfgdahfpfgdaaGreatDoor.Mem Go.Proofs.YtbjfgdahfpfgdaaGreatDoor.RootP Go.Proofs.YtbjfgdahfpfgdaaGreatDoor.MapsW Go.Proofs.YtbjfgdahfpfgdaaGreatDoor.PgP Go.Proofs.YtbjfgdahfpfgdaaGreatDoor.DevG Go.Proofs.YtbjfgdahfpfgdaaGreatDoor.RootW
set_option linter.unusedVariables false
set_option maxRecDepth 100000

/-- what stands but for a copy of its root -/
structure Semi (H : Nat) (S : St) (V : Int → Option (List Nat)) (D : Dv) : Prop where
  fit : Fit H S V (Both D H)
  now : S.now = fun _ => none
  idle : D.Idle
  le : ∀ s ∈ spots H, ∀ q, oneOf D (s : Int) = some q → q.ep ≤ (S.ep : Int)
  eq : ∀ s ∈ spots H, ∀ q, oneOf D (s : Int) = some q → q.ep = (S.ep : Int) → q = ⟨(S.ep : Int), S.rs⟩
  one : 0 < S.ep → oneOf D ((S.ep % 2 : Nat) : Int) = some ⟨(S.ep : Int), S.rs⟩ ∨ oneOf D ((S.ep % 2 + H : Nat) : Int) = some ⟨(S.ep : Int), S.rs⟩
  new : S.ep = 0 → S.rs = []
  fa : ∀ i, D.fa i = false
  sp : ∀ s ∈ spots H, Spot D s
theorem Semi.none {H : Nat} {S : St} {V : Int → Option (List Nat)} {D : Dv} (h : Semi H S V D) (h0 : S.ep = 0) : bestOf D H = ⟨0, []⟩ := best_none fun s hs => by
  cases ho : oneOf D (s : Int) with
  | none => rfl
  | some q => have := h.le s hs q ho; have := one_pos ho; omega
theorem Semi.best {H : Nat} {S : St} {V : Int → Option (List Nat)} {D : Dv} (h : Semi H S V D) (h0 : 0 < S.ep) : bestOf D H = ⟨(S.ep : Int), S.rs⟩ := by
  refine best_of (by show (0 : Int) < (S.ep : Int); omega) ?_ fun s hs q hq => ?_
  · rcases h.one h0 with e | e
    · exact ⟨_, (spot_of H S.ep).1, e⟩
    · exact ⟨_, (spot_of H S.ep).2, e⟩
  · by_cases e : q.ep = (S.ep : Int)
    · exact .inl (h.eq s hs q hq e)
    · have := h.le s hs q hq
      right
      show q.ep < (S.ep : Int)
      omega
theorem fit_none {H : Nat} {S : St} {V : Int → Option (List Nat)} {R : Nat → List Nat → Prop} (h : Fit H S V R) : Fit H { S with now := fun _ => Option.none } V R :=
  ⟨h.t7, h.dom, h.len, h.off, h.pg, h.tno, h.tb, h.inj, h.tinj, h.pt, h.rs, h.zero⟩
theorem Stand.semi {H : Nat} {S : St} {V : Int → Option (List Nat)} {D : Dv} (h : Stand H S V D) : Semi H { S with now := fun _ => Option.none } V D :=
  ⟨fit_none h.fit, rfl, h.idle, h.root.le, h.root.eq, fun h0 => .inl (h.root.two h0).1, h.new, h.fa, h.sp⟩
theorem Semi.stand {H : Nat} {S : St} {V : Int → Option (List Nat)} {D : Dv} (h : Semi H S V D) (h2 : 0 < S.ep → oneOf D ((S.ep % 2 : Nat) : Int) = some ⟨(S.ep : Int), S.rs⟩ ∧ oneOf D ((S.ep % 2 + H : Nat) : Int) = some ⟨(S.ep : Int), S.rs⟩) : Stand H S V D :=
  ⟨h.fit, by rw [h.now]; exact ⟨fun i hi => (by cases hi), fun i l hi => (by cases hi)⟩, h.idle, ⟨h.le, h.eq, h2⟩, h.new, h.fa, h.sp⟩
theorem Semi.two {H : Nat} {S : St} {V : Int → Option (List Nat)} {D : Dv} (h : Semi H S V D) (hc : copies D H S.ep = 2) : oneOf D ((S.ep % 2 : Nat) : Int) = some ⟨(S.ep : Int), S.rs⟩ ∧ oneOf D ((S.ep % 2 + H : Nat) : Int) = some ⟨(S.ep : Int), S.rs⟩ := by
  have e : ∀ i : Nat, i ∈ spots H → hasEp D S.ep i = true → oneOf D (i : Int) = some ⟨(S.ep : Int), S.rs⟩ := fun i hs hi => by
    unfold hasEp at hi
    cases ho : oneOf D (i : Int) with
    | none => rw [ho] at hi; cases hi
    | some q =>
      rw [ho] at hi
      rw [h.eq i hs q ho (of_decide_eq_true hi)]
  unfold RootW.copies copiesUp at hc
  simp only [pair, List.take_succ_cons, List.take_zero, List.countP_cons, List.countP_nil] at hc
  have h1 : hasEp D S.ep (S.ep % 2) = true := by
    cases hh : hasEp D S.ep (S.ep % 2) with
    | true => rfl
    | false => rw [hh] at hc; (split at hc <;> simp_all)
  have h2 : hasEp D S.ep (S.ep % 2 + H) = true := by
    cases hh : hasEp D S.ep (S.ep % 2 + H) with
    | true => rfl
    | false => rw [hh] at hc; (split at hc <;> simp_all)
  exact ⟨e _ (spot_of H S.ep).1 h1, e _ (spot_of H S.ep).2 h2⟩
theorem fit_move {H : Nat} {S : St} {V : Int → Option (List Nat)} {R R' : Nat → List Nat → Prop} (h : Fit H S V R) (hd : ∀ a l, 2 ≤ a → a < H → a ∈ used S.tabs S.at_ H → R a l → R' a l) : Fit H S V R' := by
  refine ⟨h.t7, h.dom, h.len, h.off, fun i l hi => ?_, h.tno, fun t ht hh => ?_, h.inj, h.tinj, h.pt, h.rs, h.zero⟩
  · obtain ⟨a, e, a1, a2, a3⟩ := h.pg i l hi
    have hz := h.dom i (by rw [hi]; rfl)
    have e' : S.at_ ((i.toNat : Nat) : Int) = some ((a : Int), Crc.sum (pblk l)) := by rw [show ((i.toNat : Nat) : Int) = i by omega]; exact e
    exact ⟨a, e, a1, a2, hd a _ a1 a2 (mem_used.2 ⟨a2, .inr (.inr ⟨i.toNat, by omega, _, e', rfl⟩)⟩) a3⟩
  · obtain ⟨a, e, a1, a2, a3⟩ := h.tb t ht hh
    refine ⟨a, e, a1, a2, hd a _ a1 a2 (mem_used.2 ⟨a2, .inr (.inl ⟨S.tabs.getD t (0, 0), ?_, by rw [e]⟩)⟩) a3⟩
    rw [List.getD_eq_getElem?_getD, List.getElem?_eq_getElem (by rw [h.t7]; exact ht)]
    exact List.getElem_mem _
/-- the root's two blocks, some of them written -/
theorem Semi.mend {H : Nat} {S : St} {V : Int → Option (List Nat)} {D F : Dv} (h : Semi H S V D) (h0 : 0 < S.ep) (h2 : 2 ≤ H) (hf : Fine ⟨(S.ep : Int), S.rs⟩) (hF : F.Idle) (hfa : ∀ i, F.fa i = false)
    (hr : ∀ i : Int, F.read i = D.read i ∨ (F.read i = some (enc ⟨(S.ep : Int), S.rs⟩) ∧ (i = ((S.ep % 2 : Nat) : Int) ∨ i = ((S.ep % 2 + H : Nat) : Int)))) : Semi H S V F := by
  have ho : ∀ i : Int, oneOf F i = oneOf D i ∨ oneOf F i = some ⟨(S.ep : Int), S.rs⟩ := fun i => by
    unfold oneOf
    rcases hr i with e | ⟨e, _⟩
    · rw [e]; exact .inl rfl
    · rw [e]; exact .inr hf.parse
  refine ⟨fit_move h.fit fun a l a1 a2 _ hb => ?_, h.now, hF, fun s hs q hq => ?_, fun s hs q hq he => ?_, fun h0 => ?_, h.new, hfa, fun s hs => (by
    rcases hr (s : Int) with e | ⟨e, _⟩
    · exact (h.sp s hs).same e
    · exact .inr ⟨_, hf, e⟩)⟩
  · constructor
    · rcases hr (a : Int) with e | ⟨_, e | e⟩
      · rw [e]; exact hb.1
      · omega
      · omega
    · rcases hr ((a + H : Nat) : Int) with e | ⟨_, e | e⟩
      · rw [e]; exact hb.2
      · omega
      · omega
  · rcases ho (s : Int) with e | e
    · exact h.le s hs q (by rw [← e]; exact hq)
    · rw [e] at hq; cases hq; exact Int.le_refl _
  · rcases ho (s : Int) with e | e
    · exact h.eq s hs q (by rw [← e]; exact hq) he
    · rw [e] at hq; cases hq; rfl
  · rcases h.one h0 with e | e
    · left
      rcases ho ((S.ep % 2 : Nat) : Int) with e' | e'
      · rw [e']; exact e
      · exact e'
    · right
      rcases ho ((S.ep % 2 + H : Nat) : Int) with e' | e'
      · rw [e']; exact e
      · exact e'
/-- what was not reached by a commit -/
theorem Stand.near {H : Nat} {S : St} {V : Int → Option (List Nat)} {D F : Dv} (h : Stand H S V D) (hF : F.Idle) (hfa : ∀ i, F.fa i = false) (hs : ∀ s ∈ spots H, F.read (s : Int) = D.read (s : Int))
    (hu : ∀ a, 2 ≤ a → a < H → a ∈ used S.tabs S.at_ H → F.read (a : Int) = D.read (a : Int) ∧ F.read ((a + H : Nat) : Int) = D.read ((a + H : Nat) : Int)) : Stand H S V F :=
  ⟨fit_move h.fit fun a l a1 a2 a3 hb => ⟨(hu a a1 a2 a3).1.trans hb.1, (hu a a1 a2 a3).2.trans hb.2⟩, h.now, hF, h.root.congr hs, h.new, hfa, fun s h' => (h.sp s h').same (hs s h')⟩
def flushOn (r : Option Nat × Dv) : Option Nat × Dv := match r with | (none, D') => D'.flushT | (some q, D') => (some q, D')
theorem save_on (D : Dv) (H ep : Nat) (b : List Nat) : D.save H ep b = flushOn (wall D H [(ep % 2, b)]) := (save_eq D H ep b).trans (by unfold flushOn; rcases wall D H [(ep % 2, b)] with ⟨_ | q, D'⟩ <;> rfl)
theorem wf_on {D : Dv} (h : D.Idle) (H k : Nat) (ws : List (Nat × List Nat)) :
    (∃ f, flushOn (wall { D with fuse := k } H ws) = (none, { (puts D H ws).flush with fuse := f }) ∧ f ≤ k ∧ (k = 0 → f = 0)) ∨
    (∃ E, flushOn (wall { D with fuse := k } H ws) = (some 5, E) ∧ 0 < k ∧ Fell D E (2 * ws.length) fun i l => ∃ b ∈ ws, b.2 = l ∧ (i = (b.1 : Int) ∨ i = ((b.1 + H : Nat) : Int))) := by
  have h' := wf_f h H k ws
  unfold flushOn
  generalize wall { D with fuse := k } H ws = r at h' ⊢
  rcases r with ⟨_ | q, D'⟩ <;> exact h'
/-- the stages of a commit whose power may go -/
theorem commit_f {D : Dv} (h : D.Idle) (H ep k : Nat) (ws : List (Nat × List Nat)) (T : List Ref) (hH : H = GeoW.half D.blocks) (hid : ((puts D H ws).flush).Idle) :
    (∃ f, Dv.commit { D with fuse := k } H ep ws T = (none, { (puts D H ws).flush.saved H ep (enc ⟨(ep : Int), T⟩) with fuse := f }) ∧ f ≤ k ∧ (k = 0 → f = 0)) ∨
    (∃ E, Dv.commit { D with fuse := k } H ep ws T = (some 5, E) ∧ 0 < k ∧ (Fell D E (2 * ws.length) (fun i l => ∃ b ∈ ws, b.2 = l ∧ (i = (b.1 : Int) ∨ i = ((b.1 + H : Nat) : Int))) ∨
      Fell (puts D H ws).flush E 2 (fun i l => l = enc ⟨(ep : Int), T⟩ ∧ (i = ((ep % 2 : Nat) : Int) ∨ i = ((ep % 2 + H : Nat) : Int))))) := by
  have e : Dv.commit { D with fuse := k } H ep ws T = match flushOn (wall { D with fuse := k } H ws) with
      | (some q, D2) => (some q, D2)
      | (none, D2) => D2.save (GeoW.half D.blocks) ep (enc ⟨(ep : Int), T⟩) := by
    unfold Dv.commit flushOn
    rcases wall { D with fuse := k } H ws with ⟨_ | q, D'⟩ <;> rfl
  rw [e, ← hH]
  rcases wf_on h H k ws with ⟨f, g1, g2, g3⟩ | ⟨E, g1, g2, g3⟩
  · rw [g1]
    simp only
    rw [save_on]
    rcases wf_on hid H f [(ep % 2, enc ⟨(ep : Int), T⟩)] with ⟨f', q1, q2, q3⟩ | ⟨E, q1, q2, q3⟩
    · rw [q1]
      exact .inl ⟨f', rfl, by omega, fun h0 => q3 (g3 h0)⟩
    · rw [q1]
      refine .inr ⟨E, rfl, by omega, .inr ⟨q3.down, q3.fl, q3.fi, q3.bl, q3.fa, q3.np, q3.cl, fun i l hp => ?_⟩⟩
      obtain ⟨c, hc, c1, c2⟩ := q3.pe i l hp
      rw [List.mem_singleton] at hc
      subst hc
      exact ⟨c1.symm, c2⟩
  · rw [g1]
    exact .inr ⟨E, rfl, g2, .inl g3⟩
end Go.Proofs.YtbjfgdahfpfgdaaGreatDoor.PgW
