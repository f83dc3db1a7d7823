/- The walk of dev's Crash. -/
import Derived.Test.YtlljpljfmaaejaaDoorKeys
import Derived.Test.YtlljpljfmaaejaaDoorGDevFlush
import Derived.Test.YtlljpljfmaaejaaDoorIntsRow
namespace Go.Proofs.YtlljpljfmaaejaaDoor.DevG
open Go Go.RowKit Go.Maps Go.Proofs.YtlljpljfmaaejaaDoor.Mem Go.Proofs.YtlljpljfmaaejaaDoor.MapsW Go.Proofs.YtlljpljfmaaejaaDoor.Ints
set_option linter.unusedVariables false
set_option maxRecDepth 100000

theorem own_turn {S : List Nat} {w w' : World} {base : Nat} {e : TypeId} {size : Nat} {v : Value} {n : Nat} {xs : List Value} (h : w.ownsRow base e size v n xs) (T : Turn S w w') (hS : ∀ x ∈ S, x < base ∨ w.heap.size ≤ x) : w'.ownsRow base e size v n xs := by
  rcases h with ⟨h1, h2 | ⟨g, c, cur, e1, hb, hg, r⟩⟩
  · exact ⟨h1, .inl h2⟩
  · refine ⟨h1, .inr ⟨g, c, cur, e1, hb, T.cells hg (fun hm => ?_), r⟩⟩
    have hlt := (Array.getElem?_eq_some_iff.1 hg).1
    rcases hS g hm with q | q <;> omega
theorem At.olds {w : World} {lo d n : Nat} {m : Mp} {D : Dv} (h : At w lo d n m D) : ∀ x ∈ own d m, x < w.heap.size := by
  intro x hx
  rcases List.mem_cons.1 hx with rfl | hx
  · exact h.dlt
  · obtain ⟨es, ck, hb⟩ := h.maps x hx
    exact (Array.getElem?_eq_some_iff.1 hb).1
/-- does the k-th pick keep? -/
def pick (zs : List Int) (k : Nat) : Bool := match zs[k]? with
  | some z => bits .and .i64 z 1 == 1
  | none => false
/-- k of the pending blocks gone through -/
def Dv.layUp (D : Dv) (ks zs : List Int) : Nat → Dv
  | 0 => D
  | k + 1 => if pick zs k then (D.layUp ks zs k).lay (ks.getD k 0) ((D.pe (ks.getD k 0)).getD []) else D.layUp ks zs k
theorem Dv.layUp_same (D : Dv) (ks zs : List Int) (k : Nat) : (D.layUp ks zs k).pe = D.pe ∧ (D.layUp ks zs k).np = D.np ∧ (D.layUp ks zs k).blocks = D.blocks ∧ (D.layUp ks zs k).calls = D.calls ∧ (D.layUp ks zs k).ev = D.ev ∧ (D.layUp ks zs k).ne = D.ne := by
  induction k with
  | zero => exact ⟨rfl, rfl, rfl, rfl, rfl, rfl⟩
  | succ k ih =>
    unfold Dv.layUp
    split
    · exact ih
    · exact ih
/-- is a block kept? -/
def sel (ks zs : List Int) (i : Int) : Bool := (List.range ks.length).any fun k => pick zs k && decide (ks.getD k 0 = i)
def selUp (ks zs : List Int) (k : Nat) (i : Int) : Bool := (List.range k).any fun k => pick zs k && decide (ks.getD k 0 = i)
theorem Dv.layUp_is (D : Dv) (ks zs : List Int) (k : Nat) (hp : ∀ i ∈ ks, (D.pe i).isSome = true) (hk : k ≤ ks.length) (i : Int) :
    (D.layUp ks zs k).fl i = (if selUp ks zs k i then D.pe i else D.fl i) ∧ (D.layUp ks zs k).fa i = (if selUp ks zs k i then false else D.fa i) ∧ (D.layUp ks zs k).fi i = (if selUp ks zs k i then false else D.fi i) := by
  induction k with
  | zero => exact ⟨rfl, rfl, rfl⟩
  | succ k ih =>
    obtain ⟨h1, h2, h3⟩ := ih (by omega)
    have e : selUp ks zs (k + 1) i = (selUp ks zs k i || (pick zs k && decide (ks.getD k 0 = i))) := by
      unfold selUp; rw [List.range_succ, List.any_append]; simp
    rw [e]
    unfold Dv.layUp
    cases hpk : pick zs k with
    | false => simp only [Bool.false_and, Bool.or_false]; exact ⟨h1, h2, h3⟩
    | true =>
      simp only [Bool.true_and]
      have hx : (D.pe (ks.getD k 0)).isSome = true := by
        refine hp _ ?_
        rw [List.getD_eq_getElem?_getD, List.getElem?_eq_getElem (by omega)]
        exact List.getElem_mem _
      simp only [if_true]
      have up : ∀ {α : Type} (F : Int → α) (x : α), upd F (ks.getD k 0) x i = if ks.getD k 0 = i then x else F i := fun F x => by
        by_cases q : ks.getD k 0 = i
        · rw [if_pos q, ← q, upd_same]
        · rw [if_neg q, upd_other _ _ (fun e => q e.symm)]
      refine ⟨?_, ?_, ?_⟩
      · show upd (D.layUp ks zs k).fl (ks.getD k 0) (some ((D.pe (ks.getD k 0)).getD [])) i = _
        rw [up, h1]
        by_cases q : ks.getD k 0 = i
        · rw [if_pos q, decide_eq_true q, Bool.or_true, if_pos rfl, ← q]
          cases hy : D.pe (ks.getD k 0) with
          | none => rw [hy] at hx; cases hx
          | some l => rfl
        · rw [if_neg q, decide_eq_false q, Bool.or_false]
      · show upd (D.layUp ks zs k).fa (ks.getD k 0) false i = _
        rw [up, h2]
        by_cases q : ks.getD k 0 = i
        · rw [if_pos q, decide_eq_true q, Bool.or_true, if_pos rfl]
        · rw [if_neg q, decide_eq_false q, Bool.or_false]
      · show upd (D.layUp ks zs k).fi (ks.getD k 0) false i = _
        rw [up, h3]
        by_cases q : ks.getD k 0 = i
        · rw [if_pos q, decide_eq_true q, Bool.or_true, if_pos rfl]
        · rw [if_neg q, decide_eq_false q, Bool.or_false]
/-- what a device has behind Crash -/
def Dv.crash (D : Dv) (ks zs : List Int) : Dv :=
  { D with fl := fun i => if sel ks zs i then D.pe i else D.fl i, fa := fun i => if sel ks zs i then false else D.fa i, fi := fun i => if sel ks zs i then false else D.fi i, pe := fun _ => none, np := 0, down := false, fuse := 0 }
theorem Dv.same {X Y : Dv} (h1 : X.blocks = Y.blocks) (h2 : X.fl = Y.fl) (h3 : X.pe = Y.pe) (h4 : X.fa = Y.fa) (h5 : X.fi = Y.fi) (h6 : X.ev = Y.ev) (h7 : X.np = Y.np) (h8 : X.ne = Y.ne) (h9 : X.calls = Y.calls) (h10 : X.fuse = Y.fuse) (h11 : X.down = Y.down) : X = Y := by
  cases X; cases Y
  cases h1; cases h2; cases h3; cases h4; cases h5; cases h6; cases h7; cases h8; cases h9; cases h10; cases h11
  rfl
theorem Dv.crash_eq (D : Dv) (ks zs : List Int) (hp : ∀ i ∈ ks, (D.pe i).isSome = true) : { (D.layUp ks zs ks.length) with pe := fun _ => none, np := 0, down := false, fuse := 0 } = D.crash ks zs := by
  obtain ⟨s1, s2, s3, s4, s5, s6⟩ := D.layUp_same ks zs ks.length
  have h := D.layUp_is ks zs ks.length hp (Nat.le_refl _)
  exact Dv.same s3 (funext fun i => (h i).1) rfl (funext fun i => (h i).2.1) (funext fun i => (h i).2.2) s5 rfl s6 s4 rfl rfl
set_option maxHeartbeats 3200000 in
theorem crash_w (d lo n : Nat) (m : Mp) (D : Dv) (a : Option Addr) (len cap : Nat) (zs : List Int) (w : World) (h : At w lo d n m D) (hz : ∀ w', Turn (own d m) w w' → Is w' a len cap zs) (hnp : D.np ≤ 1000) (hn : n < 80000) :
    Calls Tryd.prog 29 #[ptr d, .slice a len cap] w fun e w' => e = .returned (.tuple #[]) ∧ ∃ ks p', Keys D.pe ks ∧ w.heap.size ≤ p' ∧ At w' lo d (n + 3 * D.np) { m with p := p' } (D.crash ks zs) ∧ Turn (own d m) w w' := by
  have hmm := @run_makeMap Tryd.prog
  have OLD := hid h.olds
  obtain ⟨c0, c1, c2, c3, c4, c5, c6, c7, c8, f6, f2, f7, f8⟩ := h.c
  have b1 := (Below.refl w.heap.size w).alloc (Nat.le_refl _) (.cells #[.map (some m.p)] 108)
  have hs := keys_sorted m.p n w.heap.size 0 D.np D.pe (w.alloc (.cells #[.map (some m.p)] 108)) (by simp) (by simp) (h.below b1).rp (by omega)
  have hlen := (hz w (Turn.refl _ _)).len
  obtain ⟨q1, q2⟩ := (hz w (Turn.refl _ _)).bound
  go_enter Tryd.func29, Tryd.ntmps29
  go_wp2_with fail
  refine (keys_w (some m.p) w).mono ?_
  rintro e w1 ⟨rfl, rfl⟩
  go_wp2_with fail
  refine hs.mono ?_
  rintro e w2 ⟨v, ks, rfl, hK, hkl, own2, b2⟩
  have B2 := b1.trans (b2.mono (by simp))
  have T2 := hid (Turn.of_below (S := own d m) B2)
  have H2 := hid (h.below B2)
  obtain ⟨va, vc, rfl, hvr⟩ := ownsRow_slice own2
  have KS := hid hK
  have OW := hid own2
  have hvl : Is w2 va ks.length vc ks := hvr
  obtain ⟨q3, q4⟩ := hvl.bound
  clear hs b1 b2 B2 hK own2 hvr hvl c0 c1 c2 c3 c4 c5 c6 c7 c8 f6 f2 f7 f8
  go_wp2_with fail
  go_loopw [13] (fun iv wr => ∃ k : Nat, k ≤ ks.length ∧ iv = .int .i64 (k : Int) ∧ At wr lo d (n + 3 * k) m (D.layUp ks zs k) ∧ Turn (own d m) w2 wr) (fun iv _ => ks.length - (RowKit.intOf iv).toNat)
  case atStart => exact ⟨0, by omega, rfl, H2.out, Turn.refl _ _⟩
  case round =>
    obtain ⟨k, hk, rfl, ha, ht⟩ := hrel
    obtain ⟨s1, s2, s3, s4, s5, s6⟩ := D.layUp_same ks zs k
    obtain ⟨c0, c1, c2, c3, c4, c5, c6, c7, c8, f6, f2, f7, f8⟩ := ha.c
    by_cases hlt : k < ks.length
    · have hV : Is wr va ks.length vc ks := (Row.owned (own_turn OW.out ht fun x hx => .inl (by have := OLD.out x hx; simp; omega))).2
      obtain ⟨b0, o0, rfl, hv0⟩ := hV.at hlt
      have hin := (KS.out.mem ks[k]).1 (List.getElem_mem hlt)
      have hgd : ks.getD k 0 = ks[k] := by rw [List.getD_eq_getElem?_getD, List.getElem?_eq_getElem hlt]; rfl
      have hZ := hz wr (T2.out.then ht)
      have hfz : Fits ks[k] := KS.out.fit _ (List.getElem_mem hlt)
      obtain ⟨l, hl⟩ := Option.isSome_iff_exists.1 hin
      obtain ⟨g, gc, hlk, hng, hgb⟩ := ha.rp.look_some hfz (s1 ▸ hl)
      have HU := hid (show D.layUp ks zs (k + 1) = if pick zs k then (D.layUp ks zs k).lay ks[k] l else D.layUp ks zs k by
        rw [← hgd] at hl ⊢
        show (if pick zs k then (D.layUp ks zs k).lay (ks.getD k 0) ((D.pe (ks.getD k 0)).getD []) else _) = _
        rw [hl]; rfl)
      generalize ks[k] = z at *
      by_cases hkz : k < len
      · have hkz' : k < zs.length := by rw [hlen]; exact hkz
        obtain ⟨b1, o1, rfl, hz0⟩ := hZ.at hkz'
        have hpk : pick zs k = (bits .and .i64 zs[k] 1 == 1) := by unfold pick; rw [List.getElem?_eq_getElem hkz']
        generalize zs[k] = y at *
        cases hby : (bits .and .i64 y 1 == 1)
        · have HP := hid (hpk.trans hby)
          have HA := hid ha
          have HT := hid ht
          clear hpk ha ht hZ hV hlk hng hgb s1 s2 s3 s4 s5 s6
          go_wp2_with fail
          go_roundw
          case rel => exact ⟨k + 1, by omega, by go_num, by rw [HU.out, HP.out]; exact HA.out.mono (by omega) (Nat.le_refl _), HT.out⟩
          case measure => simp [RowKit.intOf]; omega
        · have HP := hid (hpk.trans hby)
          have HT := hid ht
          have hlay := lay_w d lo _ m _ z g gc l wr ha hfz hng (by omega) (by omega)
          clear hpk ht hZ hV hng hgb s1 s2 s3 s4 s5 s6 ha
          go_wp2_with fail
          refine hlay.mono ?_
          rintro e w3 ⟨rfl, h3, t3⟩
          have T3 := hid (HT.out.then (t3.mono (S' := own d m) (by simp [own, Mp.list])))
          have H3 := hid h3
          clear hlay h3 t3
          go_wp2_with fail
          go_roundw
          case rel => exact ⟨k + 1, by omega, by go_num, by rw [HU.out, HP.out]; exact H3.out.mono (by omega) (Nat.le_refl _), T3.out⟩
          case measure => simp [RowKit.intOf]; omega
      · have HP := hid (show pick zs k = false by unfold pick; rw [List.getElem?_eq_none (by omega)])
        have HA := hid ha
        have HT := hid ht
        clear ha ht hZ hV hlk hng hgb s1 s2 s3 s4 s5 s6
        go_wp2_with fail
        go_roundw
        case rel => exact ⟨k + 1, by omega, by go_num, by rw [HU.out, HP.out]; exact HA.out.mono (by omega) (Nat.le_refl _), HT.out⟩
        case measure => simp [RowKit.intOf]; omega
    · obtain rfl : k = ks.length := by omega
      have hr0 := RowMap.made wr 0
      have b5 := (Below.refl wr.heap.size wr).alloc (Nat.le_refl _) (.map #[] 0)
      have ha5 := ha.below b5
      have hsw := ha5.swapP (hr0.mono (n' := n + 3 * ks.length) (by omega) (Nat.le_refl _)) (by have := ha.dlt; have := ha.lod; omega) (fun hm => by have := ha.olds wr.heap.size (List.mem_cons_of_mem _ hm); omega)
      obtain ⟨z0, z1, z2, z3, z4, z5, z6, z7, z8, g6, g2, g7, g8⟩ := ha5.c
      have hs8 := hsw.setDown false
      have hs7 := hs8.setFuse 0
      have HT2 := hid ((((T2.out.then ht).then (Turn.of_below b5)).then (Turn.setCell _ d 2 (.map (some wr.heap.size)) (mem_own d m).1)).then (Turn.setCell _ d 8 (.bool false) (mem_own d m).1) |>.then (Turn.setCell _ d 7 (.int .i64 ((0 : Nat) : Int)) (mem_own d m).1))
      have hsz := (T2.out.then ht).size
      have hce := D.crash_eq ks zs (fun i hi => (KS.out.mem i).1 hi)
      have HS := hid (show At ((((wr.alloc (.map #[] 0)).setCell ⟨d, 2, none⟩ (.map (some wr.heap.size))).setCell ⟨d, 8, none⟩ (.bool false)).setCell ⟨d, 7, none⟩ (.int .i64 ((0 : Nat) : Int))) lo d (n + 3 * ks.length) { m with p := wr.heap.size } (D.crash ks zs) by rw [← hce]; exact hs7)
      clear hs7 hs8 hsw hr0 ha5 ha ht b5 hce
      go_wp2_with fail
      refine bodyPost_end (v := .tuple #[]) (by simp [results, Tryd.results29, go_sem]) rfl ?_
      rw [hkl] at HS
      exact ⟨rfl, ks, wr.heap.size, KS.out, by omega, HS.out, HT2.out⟩
end Go.Proofs.YtlljpljfmaaejaaDoor.DevG
