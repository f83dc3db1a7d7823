/- The walk of dev's Crash; The walk of package dev's New; Plain facts about the sum: bytes turned, four in a row or fewer, are told. No program stands here; Plain facts: bytes turned are others, and so is their sum; a block of some bytes; Plain facts about what a device holds: each row is a block's bytes; What the document's device does, beside the program's: plain; The walks of the document's device: what is asked, power, one block settled, a write; The walks of the document's device: Write, Read, SetArm, Fail, Spoil, Raw; The walks of the document's device: Raw, Pending, EverFaulted, Flush, Crash; odd; The walk of the document's device's Crash. -/
import Derived.Test.YtagbnacffiagcaaDoorDevPlaysP2
import Derived.Test.YtagbnacffiagcaaDoorDevPlaysP1
import Derived.Deep.RegionHeld3
namespace Go.Proofs.YtagbnacffiagcaaDoor.DevG
open Go Go.RowKit Go.Maps Go.Proofs.YtagbnacffiagcaaDoor.Mem Go.Proofs.YtagbnacffiagcaaDoor.MapsW Go.Proofs.YtagbnacffiagcaaDoor.Ints
set_option linter.unusedVariables false
set_option maxRecDepth 100000

theorem own_turn {S : List Nat} {w w' : World} {base : Nat} {e : TypeId} {size : Nat} {v : Value} {n : Nat} {xs : List Value} (h : w.ownsRow base e size v n xs) (T : Turn S w w') (hS : ∀ x ∈ S, x < base ∨ w.heap.size ≤ x) : w'.ownsRow base e size v n xs := by
  rcases h with ⟨h1, h2 | ⟨g, c, cur, e1, hb, hg, r⟩⟩
  · exact ⟨h1, .inl h2⟩
  · refine ⟨h1, .inr ⟨g, c, cur, e1, hb, T.cells hg (fun hm => ?_), r⟩⟩
    have hlt := (Array.getElem?_eq_some_iff.1 hg).1
    rcases hS g hm with q | q <;> omega
theorem At.olds {w : World} {lo d n : Nat} {m : Mp} {D : Dv} (h : At w lo d n m D) : ∀ x ∈ own d m, x < w.heap.size := by
  intro x hx
  rcases List.mem_cons.1 hx with rfl | hx
  · exact h.dlt
  · obtain ⟨es, ck, hb⟩ := h.maps x hx
    exact (Array.getElem?_eq_some_iff.1 hb).1
/-- does the k-th pick keep? -/
def pick (zs : List Int) (k : Nat) : Bool := match zs[k]? with
  | some z => bits .and .i64 z 1 == 1
  | none => false
/-- k of the pending blocks gone through -/
def Dv.layUp (D : Dv) (ks zs : List Int) : Nat → Dv
  | 0 => D
  | k + 1 => if pick zs k then (D.layUp ks zs k).lay (ks.getD k 0) ((D.pe (ks.getD k 0)).getD []) else D.layUp ks zs k
theorem Dv.layUp_same (D : Dv) (ks zs : List Int) (k : Nat) : (D.layUp ks zs k).pe = D.pe ∧ (D.layUp ks zs k).np = D.np ∧ (D.layUp ks zs k).blocks = D.blocks ∧ (D.layUp ks zs k).calls = D.calls ∧ (D.layUp ks zs k).ev = D.ev ∧ (D.layUp ks zs k).ne = D.ne := by
  induction k with
  | zero => exact ⟨rfl, rfl, rfl, rfl, rfl, rfl⟩
  | succ k ih =>
    unfold Dv.layUp
    split
    · exact ih
    · exact ih
/-- is a block kept? -/
def sel (ks zs : List Int) (i : Int) : Bool := (List.range ks.length).any fun k => pick zs k && decide (ks.getD k 0 = i)
def selUp (ks zs : List Int) (k : Nat) (i : Int) : Bool := (List.range k).any fun k => pick zs k && decide (ks.getD k 0 = i)
theorem Dv.layUp_is (D : Dv) (ks zs : List Int) (k : Nat) (hp : ∀ i ∈ ks, (D.pe i).isSome = true) (hk : k ≤ ks.length) (i : Int) :
    (D.layUp ks zs k).fl i = (if selUp ks zs k i then D.pe i else D.fl i) ∧ (D.layUp ks zs k).fa i = (if selUp ks zs k i then false else D.fa i) ∧ (D.layUp ks zs k).fi i = (if selUp ks zs k i then false else D.fi i) := by
  induction k with
  | zero => exact ⟨rfl, rfl, rfl⟩
  | succ k ih =>
    obtain ⟨h1, h2, h3⟩ := ih (by omega)
    have e : selUp ks zs (k + 1) i = (selUp ks zs k i || (pick zs k && decide (ks.getD k 0 = i))) := by
      unfold selUp; rw [List.range_succ, List.any_append]; simp
    rw [e]
    unfold Dv.layUp
    cases hpk : pick zs k with
    | false => simp only [Bool.false_and, Bool.or_false]; exact ⟨h1, h2, h3⟩
    | true =>
      simp only [Bool.true_and]
      have hx : (D.pe (ks.getD k 0)).isSome = true := by
        refine hp _ ?_
        rw [List.getD_eq_getElem?_getD, List.getElem?_eq_getElem (by omega)]
        exact List.getElem_mem _
      simp only [if_true]
      have up : ∀ {α : Type} (F : Int → α) (x : α), upd F (ks.getD k 0) x i = if ks.getD k 0 = i then x else F i := fun F x => by
        by_cases q : ks.getD k 0 = i
        · rw [if_pos q, ← q, upd_same]
        · rw [if_neg q, upd_other _ _ (fun e => q e.symm)]
      refine ⟨?_, ?_, ?_⟩
      · show upd (D.layUp ks zs k).fl (ks.getD k 0) (some ((D.pe (ks.getD k 0)).getD [])) i = _
        rw [up, h1]
        by_cases q : ks.getD k 0 = i
        · rw [if_pos q, decide_eq_true q, Bool.or_true, if_pos rfl, ← q]
          cases hy : D.pe (ks.getD k 0) with
          | none => rw [hy] at hx; cases hx
          | some l => rfl
        · rw [if_neg q, decide_eq_false q, Bool.or_false]
      · show upd (D.layUp ks zs k).fa (ks.getD k 0) false i = _
        rw [up, h2]
        by_cases q : ks.getD k 0 = i
        · rw [if_pos q, decide_eq_true q, Bool.or_true, if_pos rfl]
        · rw [if_neg q, decide_eq_false q, Bool.or_false]
      · show upd (D.layUp ks zs k).fi (ks.getD k 0) false i = _
        rw [up, h3]
        by_cases q : ks.getD k 0 = i
        · rw [if_pos q, decide_eq_true q, Bool.or_true, if_pos rfl]
        · rw [if_neg q, decide_eq_false q, Bool.or_false]
/-- what a device has behind Crash -/
def Dv.crash (D : Dv) (ks zs : List Int) : Dv :=
  { D with fl := fun i => if sel ks zs i then D.pe i else D.fl i, fa := fun i => if sel ks zs i then false else D.fa i, fi := fun i => if sel ks zs i then false else D.fi i, pe := fun _ => none, np := 0, down := false, fuse := 0 }
theorem Dv.same {X Y : Dv} (h1 : X.blocks = Y.blocks) (h2 : X.fl = Y.fl) (h3 : X.pe = Y.pe) (h4 : X.fa = Y.fa) (h5 : X.fi = Y.fi) (h6 : X.ev = Y.ev) (h7 : X.np = Y.np) (h8 : X.ne = Y.ne) (h9 : X.calls = Y.calls) (h10 : X.fuse = Y.fuse) (h11 : X.down = Y.down) : X = Y := by
  cases X; cases Y
  cases h1; cases h2; cases h3; cases h4; cases h5; cases h6; cases h7; cases h8; cases h9; cases h10; cases h11
  rfl
theorem Dv.crash_eq (D : Dv) (ks zs : List Int) (hp : ∀ i ∈ ks, (D.pe i).isSome = true) : { (D.layUp ks zs ks.length) with pe := fun _ => none, np := 0, down := false, fuse := 0 } = D.crash ks zs := by
  obtain ⟨s1, s2, s3, s4, s5, s6⟩ := D.layUp_same ks zs ks.length
  have h := D.layUp_is ks zs ks.length hp (Nat.le_refl _)
  exact Dv.same s3 (funext fun i => (h i).1) rfl (funext fun i => (h i).2.1) (funext fun i => (h i).2.2) s5 rfl s6 s4 rfl rfl
set_option maxHeartbeats 3200000 in
theorem crash_w (d lo n : Nat) (m : Mp) (D : Dv) (a : Option Addr) (len cap : Nat) (zs : List Int) (w : World) (h : At w lo d n m D) (hz : ∀ w', Turn (own d m) w w' → Is w' a len cap zs) (hnp : D.np ≤ 1000) (hn : n < 80000) :
    Calls Tryd.prog 43 #[ptr d, .slice a len cap] w fun e w' => e = .returned (.tuple #[]) ∧ ∃ ks p', Keys D.pe ks ∧ w.heap.size ≤ p' ∧ At w' lo d (n + 3 * D.np) { m with p := p' } (D.crash ks zs) ∧ Turn (own d m) w w' := by
  have hmm := @run_makeMap Tryd.prog
  have OLD := hid h.olds
  obtain ⟨c0, c1, c2, c3, c4, c5, c6, c7, c8, f6, f2, f7, f8⟩ := h.c
  have b1 := (Below.refl w.heap.size w).alloc (Nat.le_refl _) (.cells #[.map (some m.p)] 120)
  have hs := keys_sorted m.p n w.heap.size 0 D.np D.pe (w.alloc (.cells #[.map (some m.p)] 120)) (by simp) (by simp) (h.below b1).rp (by omega)
  have hlen := (hz w (Turn.refl _ _)).len
  obtain ⟨q1, q2⟩ := (hz w (Turn.refl _ _)).bound
  go_enter Tryd.func43, Tryd.ntmps43
  go_wp2_with fail
  refine (keys_w (some m.p) w).mono ?_
  rintro e w1 ⟨rfl, rfl⟩
  go_wp2_with fail
  refine hs.mono ?_
  rintro e w2 ⟨v, ks, rfl, hK, hkl, own2, b2⟩
  have B2 := b1.trans (b2.mono (by simp))
  have T2 := hid (Turn.of_below (S := own d m) B2)
  have H2 := hid (h.below B2)
  obtain ⟨va, vc, rfl, hvr⟩ := ownsRow_slice own2
  have KS := hid hK
  have OW := hid own2
  have hvl : Is w2 va ks.length vc ks := hvr
  obtain ⟨q3, q4⟩ := hvl.bound
  clear hs b1 b2 B2 hK own2 hvr hvl c0 c1 c2 c3 c4 c5 c6 c7 c8 f6 f2 f7 f8
  go_wp2_with fail
  go_loopw [13] (fun iv wr => ∃ k : Nat, k ≤ ks.length ∧ iv = .int .i64 (k : Int) ∧ At wr lo d (n + 3 * k) m (D.layUp ks zs k) ∧ Turn (own d m) w2 wr) (fun iv _ => ks.length - (RowKit.intOf iv).toNat)
  case atStart => exact ⟨0, by omega, rfl, H2.out, Turn.refl _ _⟩
  case round =>
    obtain ⟨k, hk, rfl, ha, ht⟩ := hrel
    obtain ⟨s1, s2, s3, s4, s5, s6⟩ := D.layUp_same ks zs k
    obtain ⟨c0, c1, c2, c3, c4, c5, c6, c7, c8, f6, f2, f7, f8⟩ := ha.c
    by_cases hlt : k < ks.length
    · have hV : Is wr va ks.length vc ks := (Row.owned (own_turn OW.out ht fun x hx => .inl (by have := OLD.out x hx; simp; omega))).2
      obtain ⟨b0, o0, rfl, hv0⟩ := hV.at hlt
      have hin := (KS.out.mem ks[k]).1 (List.getElem_mem hlt)
      have hgd : ks.getD k 0 = ks[k] := by rw [List.getD_eq_getElem?_getD, List.getElem?_eq_getElem hlt]; rfl
      have hZ := hz wr (T2.out.then ht)
      have hfz : Fits ks[k] := KS.out.fit _ (List.getElem_mem hlt)
      obtain ⟨l, hl⟩ := Option.isSome_iff_exists.1 hin
      obtain ⟨g, gc, hlk, hng, hgb⟩ := ha.rp.look_some hfz (s1 ▸ hl)
      have HU := hid (show D.layUp ks zs (k + 1) = if pick zs k then (D.layUp ks zs k).lay ks[k] l else D.layUp ks zs k by
        rw [← hgd] at hl ⊢
        show (if pick zs k then (D.layUp ks zs k).lay (ks.getD k 0) ((D.pe (ks.getD k 0)).getD []) else _) = _
        rw [hl]; rfl)
      generalize ks[k] = z at *
      by_cases hkz : k < len
      · have hkz' : k < zs.length := by rw [hlen]; exact hkz
        obtain ⟨b1, o1, rfl, hz0⟩ := hZ.at hkz'
        have hpk : pick zs k = (bits .and .i64 zs[k] 1 == 1) := by unfold pick; rw [List.getElem?_eq_getElem hkz']
        generalize zs[k] = y at *
        cases hby : (bits .and .i64 y 1 == 1)
        · have HP := hid (hpk.trans hby)
          have HA := hid ha
          have HT := hid ht
          clear hpk ha ht hZ hV hlk hng hgb s1 s2 s3 s4 s5 s6
          go_wp2_with fail
          go_roundw
          case rel => exact ⟨k + 1, by omega, by go_num, by rw [HU.out, HP.out]; exact HA.out.mono (by omega) (Nat.le_refl _), HT.out⟩
          case measure => simp [RowKit.intOf]; omega
        · have HP := hid (hpk.trans hby)
          have HT := hid ht
          have hlay := lay_w d lo _ m _ z g gc l wr ha hfz hng (by omega) (by omega)
          clear hpk ht hZ hV hng hgb s1 s2 s3 s4 s5 s6 ha
          go_wp2_with fail
          refine hlay.mono ?_
          rintro e w3 ⟨rfl, h3, t3⟩
          have T3 := hid (HT.out.then (t3.mono (S' := own d m) (by simp [own, Mp.list])))
          have H3 := hid h3
          clear hlay h3 t3
          go_wp2_with fail
          go_roundw
          case rel => exact ⟨k + 1, by omega, by go_num, by rw [HU.out, HP.out]; exact H3.out.mono (by omega) (Nat.le_refl _), T3.out⟩
          case measure => simp [RowKit.intOf]; omega
      · have HP := hid (show pick zs k = false by unfold pick; rw [List.getElem?_eq_none (by omega)])
        have HA := hid ha
        have HT := hid ht
        clear ha ht hZ hV hlk hng hgb s1 s2 s3 s4 s5 s6
        go_wp2_with fail
        go_roundw
        case rel => exact ⟨k + 1, by omega, by go_num, by rw [HU.out, HP.out]; exact HA.out.mono (by omega) (Nat.le_refl _), HT.out⟩
        case measure => simp [RowKit.intOf]; omega
    · obtain rfl : k = ks.length := by omega
      have hr0 := RowMap.made wr 0
      have b5 := (Below.refl wr.heap.size wr).alloc (Nat.le_refl _) (.map #[] 0)
      have ha5 := ha.below b5
      have hsw := ha5.swapP (hr0.mono (n' := n + 3 * ks.length) (by omega) (Nat.le_refl _)) (by have := ha.dlt; have := ha.lod; omega) (fun hm => by have := ha.olds wr.heap.size (List.mem_cons_of_mem _ hm); omega)
      obtain ⟨z0, z1, z2, z3, z4, z5, z6, z7, z8, g6, g2, g7, g8⟩ := ha5.c
      have hs8 := hsw.setDown false
      have hs7 := hs8.setFuse 0
      have HT2 := hid ((((T2.out.then ht).then (Turn.of_below b5)).then (Turn.setCell _ d 2 (.map (some wr.heap.size)) (mem_own d m).1)).then (Turn.setCell _ d 8 (.bool false) (mem_own d m).1) |>.then (Turn.setCell _ d 7 (.int .i64 ((0 : Nat) : Int)) (mem_own d m).1))
      have hsz := (T2.out.then ht).size
      have hce := D.crash_eq ks zs (fun i hi => (KS.out.mem i).1 hi)
      have HS := hid (show At ((((wr.alloc (.map #[] 0)).setCell ⟨d, 2, none⟩ (.map (some wr.heap.size))).setCell ⟨d, 8, none⟩ (.bool false)).setCell ⟨d, 7, none⟩ (.int .i64 ((0 : Nat) : Int))) lo d (n + 3 * ks.length) { m with p := wr.heap.size } (D.crash ks zs) by rw [← hce]; exact hs7)
      clear hs7 hs8 hsw hr0 ha5 ha ht b5 hce
      go_wp2_with fail
      refine bodyPost_end (v := .tuple #[]) (by simp [results, Tryd.results43, go_sem]) rfl ?_
      rw [hkl] at HS
      exact ⟨rfl, ks, wr.heap.size, KS.out, by omega, HS.out, HT2.out⟩
end Go.Proofs.YtagbnacffiagcaaDoor.DevG

namespace Go.Proofs.YtagbnacffiagcaaDoor.DevG
open Go Go.RowKit Go.Maps Go.Proofs.YtagbnacffiagcaaDoor.Mem Go.Proofs.YtagbnacffiagcaaDoor.MapsW Go.Proofs.YtagbnacffiagcaaDoor.SeeW
set_option linter.unusedVariables false
set_option maxRecDepth 100000

/-- a new device -/
def Dv.new (b : Nat) : Dv := { blocks := b, fl := fun _ => none, pe := fun _ => none, fa := fun _ => false, fi := fun _ => false, ev := fun _ => false, np := 0, ne := 0, calls := 0 }
abbrev mp (s : Nat) : Mp := ⟨s, s + 1, s + 2, s + 3, s + 4⟩
abbrev MO : Obj := .map #[] 0
theorem alloc_old {w : World} {o o' : Obj} {k : Nat} (h : w.heap[k]? = some o') : (w.alloc o).heap[k]? = some o' := by
  rw [((Below.refl w.heap.size w).alloc (Nat.le_refl _) o).block k (Array.getElem?_eq_some_iff.1 h).1]; exact h
theorem alloc_at {w : World} {k : Nat} (h : w.heap.size = k) (o : Obj) : (w.alloc o).heap[k]? = some o := by
  subst h; exact heap_alloc_new _ _
theorem rows_at {w : World} {base b : Nat} (h : w.heap[b]? = some MO) : RowMap w base b 0 (fun _ => none) 0 := by
  obtain ⟨D, h1, h2, h3⟩ := RowMap.made w base
  obtain ⟨es, ck, hb, h4⟩ := h1
  rw [heap_alloc_new] at hb
  cases hb
  exact ⟨D, ⟨_, _, h, h4⟩, h2, fun i => h3 i⟩
theorem bools_at {w : World} {b : Nat} (h : w.heap[b]? = some MO) : BoolMap w b 0 (fun _ => false) := by
  obtain ⟨D, h1, h2⟩ := BoolMap.made w
  obtain ⟨es, ck, hb, h4⟩ := h1
  rw [heap_alloc_new] at hb
  cases hb
  exact ⟨D, ⟨_, _, h, h4⟩, h2⟩

theorem sets_at {w : World} {b : Nat} (h : w.heap[b]? = some MO) : SetMap w b 0 (fun _ => false) 0 := by
  obtain ⟨D, h1, h2⟩ := SetMap.made w
  obtain ⟨es, ck, hb, h4⟩ := h1
  rw [heap_alloc_new] at hb
  cases hb
  exact ⟨D, ⟨_, _, h, h4⟩, h2⟩

theorem new_w (b : Nat) (w : World) (h1 : 1 ≤ b) (h2 : b ≤ 6000) :
    Calls Tryd.prog 33 #[.int .i64 b] w fun e w' => e = .returned (.tuple #[ptr (w.heap.size + 5), .nilIface]) ∧ At w' w.heap.size (w.heap.size + 5) 0 (mp w.heap.size) (Dv.new b) ∧ Below w.heap.size w w' ∧ w'.heap.size = w.heap.size + 6 := by
  have hmm := @run_makeMap Tryd.prog
  go_enter Tryd.func33, Tryd.ntmps33
  go_wp2
  have s1 : (w.alloc MO).heap.size = w.heap.size + 1 := by simp
  have s2 : ((w.alloc MO).alloc MO).heap.size = w.heap.size + 2 := by simp
  have s3 : (((w.alloc MO).alloc MO).alloc MO).heap.size = w.heap.size + 3 := by simp
  have s4 : ((((w.alloc MO).alloc MO).alloc MO).alloc MO).heap.size = w.heap.size + 4 := by simp
  have s5 : (((((w.alloc MO).alloc MO).alloc MO).alloc MO).alloc MO).heap.size = w.heap.size + 5 := by simp
  have hb : ∀ o, Below w.heap.size w ((((((w.alloc MO).alloc MO).alloc MO).alloc MO).alloc MO).alloc o) := fun o =>
    ((((((Below.refl _ w).alloc (Nat.le_refl _) MO).alloc (by omega) MO).alloc (by omega) MO).alloc (by omega) MO).alloc (by omega) MO).alloc (by omega) o
  refine bodyPost_ret (v := .tuple #[ptr (w.heap.size + 5), .nilIface]) (by simp [results, Tryd.results33, go_sem]) rfl ⟨rfl, ?_, hb _, by simp⟩
  refine ⟨alloc_at s5 _, ⟨0, rows_at (alloc_old (alloc_old (alloc_old (alloc_old (alloc_old (alloc_at rfl _))))))⟩, rows_at (alloc_old (alloc_old (alloc_old (alloc_old (alloc_at s1 _))))), bools_at (alloc_old (alloc_old (alloc_old (alloc_at s2 _)))), bools_at (alloc_old (alloc_old (alloc_at s3 _))), sets_at (alloc_old (alloc_at s4 _)), ?_, by omega, ?_⟩
  · simp [Mp.list]
  · intro x hx
    simp [Mp.list] at hx
    omega
/-- a device that is none -/
theorem new_no (bs : List Addr) (lo : Nat) (b : Int) (w : World) (hB : Ev w lo bs five) (hf : Fits b) (h : b < 1 ∨ 6000 < b) :
    Calls Tryd.prog 33 #[.int .i64 b] w fun e w' => (∃ a, bs[2]? = some a ∧ e = .returned (.tuple #[.pointer none, ev a])) ∧ Below w.heap.size w w' := by
  obtain ⟨aF, haF, hAF⟩ := hB.get 2 _ (by decide) rfl
  have hA1 := hAF.1
  rcases h with h | h
  · have h1 : decide (b < 1) = true := decide_eq_true h
    go_enter Tryd.func33, Tryd.ntmps33
    go_wp2
    go_quiet (fail)
    go_wp2
    refine bodyPost_ret (v := .tuple #[.pointer none, ev aF]) (by simp [results, Tryd.results33, go_sem]) rfl ⟨⟨aF, haF, rfl⟩, below_drewN (Below.refl _ _) _⟩
  · have h1 : decide (b < 1) = false := decide_eq_false (by omega)
    have h2 : decide (6000 < b) = true := decide_eq_true h
    go_enter Tryd.func33, Tryd.ntmps33
    go_wp2
    go_quiet (fail)
    go_wp2
    refine bodyPost_ret (v := .tuple #[.pointer none, ev aF]) (by simp [results, Tryd.results33, go_sem]) rfl ⟨⟨aF, haF, rfl⟩, below_drewN (Below.refl _ _) _⟩
end Go.Proofs.YtagbnacffiagcaaDoor.DevG

namespace Go.Proofs.YtagbnacffiagcaaDoor.Crc

/-- bytes as one word, the first the lowest -/
def val : List Nat → Nat
  | [] => 0
  | c :: l => c ^^^ (val l * 256)
theorem run_val (l : List Nat) : ∀ s, run s l = bits (8 * l.length) (s ^^^ val l) := by
  induction l with
  | nil => intro s; simp [run, val, bits]
  | cons c l ih =>
    intro s
    have h1 : val l = step (val l * 256) := by rw [step_def]; exact (bits_high 8 (val l)).symm
    have hr : run s (c :: l) = run (step (s ^^^ c)) l := by rw [run]
    have hv : val (c :: l) = c ^^^ val l * 256 := by rw [val]
    have h2 : step (s ^^^ c) ^^^ val l = bits 8 (s ^^^ val (c :: l)) := by
      rw [hv, ← step_def, ← Nat.xor_assoc, step_xor (s ^^^ c), ← h1]
    have hl : 8 * (c :: l).length = 8 + 8 * l.length := by simp only [List.length_cons]; omega
    rw [hr, ih, h2, hl, bits_add]
theorem val_lt (l : List Nat) (h : Bytes l) : val l < 2 ^ (8 * l.length) := by
  induction l with
  | nil => simp [val]
  | cons c l ih =>
    have h1 := ih h.tail
    have hc := h.head
    have e : 8 * (c :: l).length = 8 * l.length + 8 := by simp; omega
    rw [e]
    refine Nat.xor_lt_two_pow ?_ ?_
    · exact Nat.lt_of_lt_of_le hc (Nat.pow_le_pow_right (n := 2) (i := 8) (by decide) (by omega))
    · rw [Nat.pow_add]
      exact Nat.mul_lt_mul_of_pos_right h1 (by decide)
theorem val_zero (l : List Nat) (h : Bytes l) (hv : val l = 0) : ∀ x ∈ l, x = 0 := by
  induction l with
  | nil => simp
  | cons c l ih =>
    have hc := h.head
    have h1 : c = val l * 256 := by
      have := congrArg (· ^^^ (val l * 256)) hv
      simpa [val, Nat.xor_assoc] using this
    have h2 : val l = 0 := by omega
    intro x hx
    rcases List.mem_cons.1 hx with rfl | hx
    · omega
    · exact ih h.tail h2 x hx
theorem turn_bytes : ∀ (a b : List Nat), Bytes a → Bytes b → Bytes (turn a b)
  | [], _, _, _ => by simp [turn, Bytes]
  | _ :: _, [], _, _ => by simp [turn, Bytes]
  | x :: a, y :: b, ha, hb => by
    intro z hz
    rcases List.mem_cons.1 hz with rfl | hz
    · exact xor_byte ha.head hb.head
    · exact turn_bytes a b ha.tail hb.tail z hz
theorem turn_length : ∀ (a b : List Nat), a.length = b.length → (turn a b).length = a.length
  | [], _, _ => by simp [turn]
  | _ :: _, [], h => by simp at h
  | _ :: a, _ :: b, h => by simp [turn, turn_length a b (by simpa using h)]
theorem turn_zero : ∀ (a b : List Nat), a.length = b.length → (∀ x ∈ turn a b, x = 0) → a = b
  | [], b, h, _ => by cases b; rfl; simp at h
  | x :: a, [], h, _ => by simp at h
  | x :: a, y :: b, h, hz => by
    have h1 : x ^^^ y = 0 := hz _ (by simp [turn])
    have h2 : x = y := by
      have := congrArg (· ^^^ y) h1
      simpa [Nat.xor_assoc] using this
    rw [h2, turn_zero a b (by simpa using h) (fun z hz' => hz z (by simp [turn, hz']))]
/-- four bytes or fewer -/
theorem run_four {a b : List Nat} (ha : Bytes a) (hb : Bytes b) (hl : a.length = b.length) (h4 : a.length ≤ 4) {s : Nat} (h : run s a = run s b) : a = b := by
  have h1 : run 0 (turn a b) = 0 := by
    have := run_xor a b s s hl
    rw [h, Nat.xor_self, Nat.xor_self] at this
    exact this.symm
  rw [run_val, Nat.zero_xor] at h1
  have ht := turn_bytes a b ha hb
  have hv := val_lt _ ht
  rw [turn_length a b hl] at hv
  have hW : val (turn a b) < W := Nat.lt_of_lt_of_le hv (Nat.pow_le_pow_right (n := 2) (j := 32) (by decide) (by omega))
  exact turn_zero a b hl (val_zero _ ht (bits_eq_zero _ hW h1))
theorem Bytes_append {a b : List Nat} (h : Bytes (a ++ b)) : Bytes a ∧ Bytes b := ⟨fun x hx => h x (by simp [hx]), fun x hx => h x (by simp [hx])⟩
theorem sum_four {a m m' b : List Nat} (h : Bytes (a ++ (m ++ b))) (h' : Bytes (a ++ (m' ++ b))) (hl : m.length = m'.length) (h4 : m.length ≤ 4)
    (hs : sum (a ++ (m ++ b)) = sum (a ++ (m' ++ b))) : m = m' := by
  have h1 := sum_inj hs
  rw [run_append, run_append, run_append, run_append] at h1
  have ha := (Bytes_append h).1
  have hm := (Bytes_append (Bytes_append h).2).1
  have hb := (Bytes_append (Bytes_append h).2).2
  have hm' := (Bytes_append (Bytes_append h').2).1
  have hr := run_lt a (s := W - 1) top_lt ha
  exact run_four hm hm' hl h4 (run_inj b (run_lt m hr hm) (run_lt m' hr hm') hb h1)

/-- which bytes were turned -/
theorem turnK_get (l : List Nat) (p t k : Nat) : ∀ j, (turnK l (p : Int) t k)[j]? = (l[j]?).map fun c => if p ≤ j ∧ j < p + k then c ^^^ byteOf t (j - p) else c := by
  induction k with
  | zero => intro j; simp only [turnK]; cases l[j]? with
    | none => rfl
    | some c => simp only [Option.map_some]; rw [if_neg (by omega)]
  | succ k ih =>
    intro j
    show (turn1 (turnK l p t k) p t k)[j]? = _
    unfold turn1
    rw [turnK_length]
    by_cases hin : p + k < l.length
    · rw [if_pos (by omega)]
      simp only [Int.toNat_natCast]
      rw [List.getElem?_set, turnK_length, List.getD_eq_getElem?_getD, ih (p + k), List.getElem?_eq_getElem hin]
      by_cases e : p + k = j
      · subst e
        rw [if_pos rfl, if_pos hin]
        rw [List.getElem?_eq_getElem hin]
        simp only [Option.map_some, Option.getD_some]
        rw [if_neg (by omega), if_pos (by omega)]
        rw [Nat.add_sub_cancel_left]
      · rw [if_neg e, ih j]
        cases l[j]? with
        | none => rfl
        | some c =>
          simp only [Option.map_some]
          by_cases h2 : p ≤ j ∧ j < p + k
          · rw [if_pos h2, if_pos (by omega)]
          · rw [if_neg h2, if_neg (by omega)]
    · rw [if_neg (by omega), ih j]
      by_cases hj : j < l.length
      · rw [List.getElem?_eq_getElem hj]
        simp only [Option.map_some]
        by_cases h2 : p ≤ j ∧ j < p + k
        · rw [if_pos h2, if_pos (by omega)]
        · rw [if_neg h2, if_neg (by omega)]
      · rw [List.getElem?_eq_none (by omega)]; rfl
theorem turned_neg (l : List Nat) {at_ : Int} (t : Nat) (h : at_ < 0) : ∀ k, turnK l at_ t k = l
  | 0 => rfl
  | k + 1 => by rw [turnK, turned_neg l t h k]; unfold turn1; rw [if_neg (by omega)]
theorem turned_length (l : List Nat) (at_ : Int) (t : Nat) : (turned l at_ t).length = l.length := turnK_length l at_ t 4
theorem turned_bytes {l : List Nat} (h : Bytes l) (at_ : Int) (t : Nat) : Bytes (turned l at_ t) := turnK_bytes h at_ t 4
/-- turned twice -/
theorem turned_twice (l : List Nat) (at_ : Int) (t : Nat) : turned (turned l at_ t) at_ t = l := by
  by_cases h : at_ < 0
  · unfold turned; rw [turned_neg _ _ h, turned_neg _ _ h]
  · obtain ⟨p, rfl⟩ := Int.eq_ofNat_of_zero_le (a := at_) (by omega)
    apply List.ext_getElem?
    intro j
    show (turnK _ (p : Int) t 4)[j]? = _
    rw [turnK_get]
    show Option.map _ (turnK l (p : Int) t 4)[j]? = _
    rw [turnK_get]
    cases l[j]? with
    | none => rfl
    | some c =>
      simp only [Option.map_some]
      by_cases h2 : p ≤ j ∧ j < p + 4
      · rw [if_pos h2, if_pos h2, Nat.xor_assoc, Nat.xor_self, Nat.xor_zero]
      · rw [if_neg h2, if_neg h2]
theorem parts (l : List Nat) (p : Nat) : l = l.take p ++ ((l.drop p).take 4 ++ l.drop (p + 4)) := by
  have h1 : (l.drop p).take 4 ++ (l.drop p).drop 4 = l.drop p := List.take_append_drop 4 _
  rw [List.drop_drop] at h1
  rw [h1, List.take_append_drop]
/-- turned bytes have another sum, but where nothing was turned -/
theorem turned_sum {l : List Nat} (hb : Bytes l) (at_ : Int) (t : Nat) : (sum (turned l at_ t) = sum l) ↔ l = turned l at_ t := by
  constructor
  · intro h
    by_cases hn : at_ < 0
    · unfold turned; rw [turned_neg _ _ hn]
    · obtain ⟨p, rfl⟩ := Int.eq_ofNat_of_zero_le (a := at_) (by omega)
      have hb' := turned_bytes hb (p : Int) t
      have hlen := turned_length l (p : Int) t
      have hget : ∀ j, (turned l (p : Int) t)[j]? = _ := turnK_get l p t 4
      generalize hm : turned l (p : Int) t = m at *
      have e1 : m.take p = l.take p := by
        apply List.ext_getElem?
        intro j
        rw [List.getElem?_take, List.getElem?_take]
        by_cases hj : j < p
        · rw [if_pos hj, if_pos hj, hget j]
          cases l[j]? with
          | none => rfl
          | some c => simp only [Option.map_some]; rw [if_neg (by omega)]
        · rw [if_neg hj, if_neg hj]
      have e2 : m.drop (p + 4) = l.drop (p + 4) := by
        apply List.ext_getElem?
        intro j
        rw [List.getElem?_drop, List.getElem?_drop, hget]
        cases l[p + 4 + j]? with
        | none => rfl
        | some c => simp only [Option.map_some]; rw [if_neg (by omega)]
      have pm := parts m p
      have pl := parts l p
      rw [e1, e2] at pm
      have hs : sum (l.take p ++ ((l.drop p).take 4 ++ l.drop (p + 4))) = sum (l.take p ++ ((m.drop p).take 4 ++ l.drop (p + 4))) := by
        rw [← pm, ← pl]; exact h.symm
      have e3 := sum_four (by rw [← pl]; exact hb) (by rw [← pm]; exact hb') (by simp [hlen]) (by simp; omega) hs
      rw [pm, ← e3, ← pl]
  · intro h; rw [← h]

/-- nothing, as long -/
theorem turn_turned (l : List Nat) (at_ : Int) (t : Nat) : turn l (turned l at_ t) = turn (turned (List.replicate l.length 0) at_ t) (List.replicate l.length 0) := by
  have get : ∀ (a b : List Nat) (j : Nat), (turn a b)[j]? = (match a[j]?, b[j]? with | some x, some y => some (x ^^^ y) | _, _ => none) := by
    intro a
    induction a with
    | nil => intro b j; simp [turn]
    | cons x a ih =>
      intro b j
      cases b with
      | nil => cases j <;> simp [turn]
      | cons y b =>
        cases j with
        | zero => simp [turn]
        | succ j => simp only [turn, List.getElem?_cons_succ]; exact ih b j
  apply List.ext_getElem?
  intro j
  rw [get, get]
  by_cases hn : at_ < 0
  · unfold turned; rw [turned_neg _ _ hn, turned_neg _ _ hn]
    by_cases hj : j < l.length
    · simp [hj]
    · simp [hj]
  · obtain ⟨p, rfl⟩ := Int.eq_ofNat_of_zero_le (a := at_) (by omega)
    show (match l[j]?, (turnK l (p : Int) t 4)[j]? with | some x, some y => some (x ^^^ y) | _, _ => none) = (match (turnK (List.replicate l.length 0) (p : Int) t 4)[j]?, (List.replicate l.length 0)[j]? with | some x, some y => some (x ^^^ y) | _, _ => none)
    rw [turnK_get, turnK_get]
    by_cases hj : j < l.length
    · rw [List.getElem?_eq_getElem hj, List.getElem?_replicate, if_pos hj]
      simp only [Option.map_some]
      by_cases h2 : p ≤ j ∧ j < p + 4
      · rw [if_pos h2, if_pos h2, ← Nat.xor_assoc]; simp
      · rw [if_neg h2, if_neg h2]; simp
    · rw [List.getElem?_eq_none (by omega), List.getElem?_replicate, if_neg hj]; rfl
theorem four_xor (a b c d q : Nat) (h : a ^^^ b = c ^^^ d) : (a ^^^ q) ^^^ (b ^^^ q) ^^^ (c ^^^ q) ^^^ (d ^^^ q) = 0 := by
  have e : ∀ x y : Nat, (x ^^^ q) ^^^ (y ^^^ q) = x ^^^ y := by
    intro x y
    rw [Nat.xor_assoc, ← Nat.xor_assoc q, Nat.xor_comm q, Nat.xor_assoc y, Nat.xor_self, Nat.xor_zero]
  rw [e, Nat.xor_assoc, e, h, Nat.xor_self]
/-- the four sums of CrcXors -/
theorem sum_turned (l : List Nat) (at_ : Int) (t : Nat) :
    sum l ^^^ sum (turned l at_ t) ^^^ sum (turned (List.replicate l.length 0) at_ t) ^^^ sum (List.replicate l.length 0) = 0 := by
  refine four_xor _ _ _ _ _ ?_
  rw [run_xor _ _ _ _ (by rw [turned_length]), run_xor _ _ _ _ (by rw [turned_length]), turn_turned]
end Go.Proofs.YtagbnacffiagcaaDoor.Crc

namespace Go.Proofs.YtagbnacffiagcaaDoor.Crc
open Go

theorem turned_ne {l : List Nat} {p t : Nat} (hl : p + 4 ≤ l.length) (h0 : t ≠ 0) (ht : t < 4294967296) : turned l (p : Int) t ≠ l := by
  intro e
  have hb : ∀ k, k < 4 → byteOf t k = 0 := by
    intro k hk
    have h1 := turnK_get l p t 4 (p + k)
    rw [show turnK l (p : Int) t 4 = l from e] at h1
    have hlt : p + k < l.length := by omega
    rw [List.getElem?_eq_getElem hlt] at h1
    simp only [Option.map_some] at h1
    rw [if_pos (by omega), Nat.add_sub_cancel_left] at h1
    have h2 := Option.some.inj h1
    have h3 := congrArg (· ^^^ l[p + k]) h2
    simp only [Nat.xor_self] at h3
    rw [Nat.xor_comm l[p + k] (byteOf t k), Nat.xor_assoc, Nat.xor_self, Nat.xor_zero] at h3
    exact h3.symm
  have b0 := hb 0 (by omega)
  have b1 := hb 1 (by omega)
  have b2 := hb 2 (by omega)
  have b3 := hb 3 (by omega)
  unfold byteOf at b0 b1 b2 b3
  simp only [Nat.shiftRight_eq_div_pow] at b0 b1 b2 b3
  simp at b0 b1 b2 b3
  omega
theorem turned_sum_ne {l : List Nat} (hb : Bytes l) {p t : Nat} (hl : p + 4 ≤ l.length) (h0 : t ≠ 0) (ht : t < 4294967296) : sum (turned l (p : Int) t) ≠ sum l := by
  intro e
  exact turned_ne hl h0 ht ((turned_sum hb p t).1 e).symm

/-- a block of some bytes -/
def pad (l : List Nat) : List Nat := l ++ List.replicate (256 - l.length) 0
theorem pad_length {l : List Nat} (h : l.length ≤ 256) : (pad l).length = 256 := by
  unfold pad; rw [List.length_append, List.length_replicate]; omega
theorem pad_bytes {l : List Nat} (h : Bytes l) : Bytes (pad l) := by
  intro x hx
  rcases List.mem_append.1 hx with hx | hx
  · exact h x hx
  · rw [(List.mem_replicate.1 hx).2]; decide
theorem zeros_bytes (n : Nat) : Bytes (List.replicate n 0) := by
  intro x hx
  rw [(List.mem_replicate.1 hx).2]; decide
/-- one more byte laid -/
theorem pad_set {l : List Nat} {k : Nat} (h : k < l.length) (h2 : l.length ≤ 256) : (l.take k ++ List.replicate (256 - k) 0).set k l[k] = l.take (k + 1) ++ List.replicate (256 - (k + 1)) 0 := by
  have e : List.replicate (256 - k) (0 : Nat) = 0 :: List.replicate (256 - (k + 1)) 0 := by
    rw [show 256 - k = (256 - (k + 1)) + 1 by omega, List.replicate_succ]
  have hl : (l.take k).length = k := by rw [List.length_take]; omega
  rw [e, List.set_append_right _ _ (by omega), hl, Nat.sub_self, List.set_cons_zero, List.take_succ_eq_append_getElem h, List.append_assoc]
  rfl
end Go.Proofs.YtagbnacffiagcaaDoor.Crc

namespace Go.Proofs.YtagbnacffiagcaaDoor.DevG
open Go Go.Maps Go.Proofs.YtagbnacffiagcaaDoor.MapsW

/-- a block's bytes -/
def Blk (l : List Nat) : Prop := Crc.Bytes l ∧ l.length = 256
structure Ok (D : Dv) : Prop where
  fl : ∀ j l, D.fl j = some l → Blk l
  pe : ∀ j l, D.pe j = some l → Blk l
theorem Ok.new (b : Nat) : Ok (Dv.new b) := ⟨fun j l h => (by cases h), fun j l h => (by cases h)⟩
theorem Ok.put {D : Dv} (h : Ok D) {i : Int} {l : List Nat} (hl : Blk l) : Ok (D.put i l) := by
  refine ⟨h.fl, fun j l' hj => ?_⟩
  by_cases e : j = i
  · subst e
    rw [show (D.put j l).pe j = some l from upd_same _ _ _] at hj
    cases hj
    exact hl
  · rw [show (D.put i l).pe j = D.pe j from upd_other _ _ e] at hj
    exact h.pe j l' hj
theorem Ok.flush {D : Dv} (h : Ok D) : Ok D.flush := by
  refine ⟨fun j l hj => ?_, fun j l hj => (by cases hj)⟩
  change (if (D.pe j).isSome then D.pe j else D.fl j) = some l at hj
  split at hj
  · exact h.pe j l hj
  · exact h.fl j l hj
theorem Ok.kept {D : Dv} (h : Ok D) (i : Int) : Blk (keptOf D i) := by
  unfold keptOf
  cases hF : D.fl i with
  | none => exact ⟨Crc.zeros_bytes 256, List.length_replicate ..⟩
  | some l => exact h.fl i l hF
theorem Ok.spoil {D : Dv} (h : Ok D) (i at_ : Int) (t : Nat) : Ok (D.spoil i at_ t) := by
  unfold Dv.spoil
  split
  · refine ⟨fun j l hj => ?_, h.pe⟩
    change upd D.fl i (some _) j = some l at hj
    by_cases e : j = i
    · subst e
      rw [upd_same] at hj
      cases hj
      exact ⟨Crc.turned_bytes (h.kept j).1 at_ t, by rw [Crc.turned_length]; exact (h.kept j).2⟩
    · rw [upd_other _ _ e] at hj
      exact h.fl j l hj
  · exact h
theorem Ok.fail {D : Dv} (h : Ok D) (i : Int) : Ok (D.fail i) := by
  unfold Dv.fail
  split
  · exact ⟨h.fl, h.pe⟩
  · exact h
theorem Ok.read {D : Dv} (h : Ok D) {j : Int} {l : List Nat} (hj : D.read j = some l) : Blk l := by
  unfold Dv.read at hj
  cases hp : D.pe j with
  | some l' => rw [hp] at hj; cases hj; exact h.pe j _ hp
  | none =>
    rw [hp] at hj
    simp only at hj
    split at hj
    · cases hj
    · cases hj; exact h.kept j
theorem pad_blk {l : List Nat} (hb : Crc.Bytes l) (hl : l.length ≤ 256) : Blk (Crc.pad l) := ⟨Crc.pad_bytes hb, Crc.pad_length hl⟩

/-- what is read where nothing is pending -/
theorem read_flushed {D : Dv} {j : Int} (hp : D.pe j = none) (hi : D.fi j = false) : D.read j = some (keptOf D j) := by
  unfold Dv.read; rw [hp]; simp only; rw [hi]; rfl
theorem read_pending {D : Dv} {j : Int} {l : List Nat} (hp : D.pe j = some l) : D.read j = some l := by
  unfold Dv.read; rw [hp]
theorem read_failed {D : Dv} {j : Int} (hp : D.pe j = none) (hi : D.fi j = true) : D.read j = none := by
  unfold Dv.read; rw [hp]; simp only; rw [hi]; rfl
end Go.Proofs.YtagbnacffiagcaaDoor.DevG

namespace Go.Proofs.YtagbnacffiagcaaDoor.RDevW
open Go Go.RowKit Go.Maps Go.Proofs.YtagbnacffiagcaaDoor.Mem Go.Proofs.YtagbnacffiagcaaDoor.MapsW Go.Proofs.YtagbnacffiagcaaDoor.DevG
set_option linter.unusedVariables false
set_option maxRecDepth 100000

def cnt (P : Nat → Bool) : Nat → Nat
  | 0 => 0
  | k + 1 => cnt P k + (P k).toNat
theorem cnt_le (P : Nat → Bool) : ∀ k, cnt P k ≤ k
  | 0 => Nat.le_refl _
  | k + 1 => by
    have := cnt_le P k
    have : (P k).toNat ≤ 1 := by cases P k <;> decide
    show cnt P k + _ ≤ _
    omega
theorem cnt_same {P Q : Nat → Bool} : ∀ k, (∀ q, q < k → P q = Q q) → cnt P k = cnt Q k
  | 0, _ => rfl
  | k + 1, h => by
    show cnt P k + _ = cnt Q k + _
    rw [cnt_same k fun q hq => h q (by omega), h k (by omega)]
theorem cnt_upd (P : Nat → Bool) (p : Nat) (v : Bool) : ∀ k, cnt (updN P p v) k + (if p < k then (P p).toNat else 0) = cnt P k + (if p < k then v.toNat else 0)
  | 0 => rfl
  | k + 1 => by
    have ih := cnt_upd P p v k
    show cnt (updN P p v) k + (if k = p then v else P k).toNat + _ = cnt P k + (P k).toNat + _
    by_cases e : k = p
    · subst e
      rw [if_pos rfl, if_pos (by omega), if_pos (by omega)]
      rw [if_neg (by omega), if_neg (by omega)] at ih
      omega
    · rw [if_neg e]
      by_cases h : p < k
      · rw [if_pos (by omega), if_pos (by omega)]
        rw [if_pos h, if_pos h] at ih
        omega
      · rw [if_neg (by omega), if_neg (by omega)]
        rw [if_neg h, if_neg h] at ih
        omega
theorem cnt_on {P : Nat → Bool} {p b : Nat} (hp : p < b) : cnt (updN P p true) b = if P p then cnt P b else cnt P b + 1 := by
  have := cnt_upd P p true b
  rw [if_pos hp, if_pos hp] at this
  cases h : P p <;> rw [h] at this <;> simp at this ⊢ <;> omega
theorem cnt_off {P : Nat → Bool} {p b : Nat} (hp : p < b) : cnt (updN P p false) b = if P p then cnt P b - 1 else cnt P b := by
  have := cnt_upd P p false b
  rw [if_pos hp, if_pos hp] at this
  cases h : P p <;> rw [h] at this <;> simp at this ⊢ <;> omega
theorem cnt_none {P : Nat → Bool} : ∀ k, (∀ q, q < k → P q = false) → cnt P k = 0
  | 0, _ => rfl
  | k + 1, h => by show cnt P k + _ = 0; rw [cnt_none k fun q hq => h q (by omega), h k (by omega)]; rfl
/-- the document's device behind each -/
def Rd.tick (R : Rd) : Rd := if !R.down && decide (0 < R.arm) then { R with arm := R.arm - 1, down := decide (R.arm = 1) } else R
def Rd.write (R : Rd) (i : Int) (n : Nat) (l : List Nat) : Option Nat × Rd :=
  if R.tick.down then (some 5, R.tick) else if 0 ≤ i ∧ i < R.b then if n = 256 then (none, { R.tick with W := updN R.W i.toNat l, P := updN R.P i.toNat true, calls := R.calls + 1 }) else (some 1, R.tick) else (some 4, R.tick)
def Rd.settle (R : Rd) (q : Nat) : Rd := { R with F := updN R.F q (R.W q), A := updN R.A q false, I := updN R.I q false }
/-- pending ones settled: where S says so; those of the first k gone through -/
def Rd.gone (R : Rd) (S : Nat → Bool) (k : Nat) : Rd :=
  { R with F := fun q => if q < k ∧ S q = true then R.W q else R.F q, A := fun q => if q < k ∧ S q = true then false else R.A q, I := fun q => if q < k ∧ S q = true then false else R.I q, P := fun q => if q < k then false else R.P q }
def Rd.flush (R : Rd) : Option Nat × Rd := if R.tick.down then (some 5, R.tick) else (none, { R.tick.gone R.P R.b with calls := R.calls + 1 })
/-- is the q-th kept? -/
def Rd.keeps (R : Rd) (zs : List Int) (q : Nat) : Bool := R.P q && pick zs (cnt R.P q)
def Rd.crash (R : Rd) (zs : List Int) : Rd := { R.gone (R.keeps zs) R.b with down := false, arm := 0 }
def Rd.may (R : Rd) (i : Int) : Bool := decide (0 ≤ i ∧ i < R.b) && (!R.P i.toNat && !R.A i.toNat)
def Rd.fault (R : Rd) (q : Nat) : Rd := { R with A := updN R.A q true, E := updN R.E q true }
def Rd.fail (R : Rd) (i : Int) : Rd := if R.may i then { R with I := updN R.I i.toNat true }.fault i.toNat else R
def Rd.mayS (R : Rd) (i at_ : Int) (t : Nat) : Bool := R.may i && decide (0 ≤ at_ ∧ at_ ≤ 252 ∧ t ≠ 0)
def Rd.spoil (R : Rd) (i at_ : Int) (t : Nat) : Rd := if R.mayS i at_ t then { R with F := updN R.F i.toNat (Crc.turned (R.F i.toNat) at_ t) }.fault i.toNat else R
def Rd.mayR (R : Rd) (i : Int) (n : Nat) : Bool := decide (0 ≤ i ∧ i < R.b) && decide (n = 256)
def Rd.raw (R : Rd) (q : Nat) (l : List Nat) : Rd := { ({ R with W := updN R.W q l } : Rd).settle q with P := updN R.P q false }
def Rd.get (R : Rd) (i : Int) : Except Nat (List Nat) :=
  if R.down then .error 5 else if 0 ≤ i ∧ i < R.b then (if R.P i.toNat then .ok (R.W i.toNat) else if R.I i.toNat then .error 6 else .ok (R.F i.toNat)) else .error 4
theorem Rd.tick_same (R : Rd) : R.tick.b = R.b ∧ R.tick.F = R.F ∧ R.tick.W = R.W ∧ R.tick.P = R.P ∧ R.tick.A = R.A ∧ R.tick.I = R.I ∧ R.tick.E = R.E ∧ R.tick.calls = R.calls ∧ R.tick.arm ≤ R.arm := by
  unfold Rd.tick
  split
  · exact ⟨rfl, rfl, rfl, rfl, rfl, rfl, rfl, rfl, Nat.sub_le ..⟩
  · exact ⟨rfl, rfl, rfl, rfl, rfl, rfl, rfl, rfl, Nat.le_refl _⟩
theorem Rd.same {X Y : Rd} (h1 : X.b = Y.b) (h2 : X.F = Y.F) (h3 : X.W = Y.W) (h4 : X.P = Y.P) (h5 : X.A = Y.A) (h6 : X.I = Y.I) (h7 : X.E = Y.E) (h8 : X.calls = Y.calls) (h9 : X.arm = Y.arm) (h10 : X.down = Y.down) : X = Y := by
  cases X; cases Y
  cases h1; cases h2; cases h3; cases h4; cases h5; cases h6; cases h7; cases h8; cases h9; cases h10
  rfl
theorem Rd.gone_zero (R : Rd) (S : Nat → Bool) : R.gone S 0 = R := by
  refine Rd.same rfl (funext fun q => ?_) rfl (funext fun q => ?_) (funext fun q => ?_) (funext fun q => ?_) rfl rfl rfl rfl
  · show (if q < 0 ∧ S q = true then R.W q else R.F q) = R.F q
    exact if_neg (fun h : q < 0 ∧ S q = true => absurd h.1 (Nat.not_lt_zero _))
  · show (if q < 0 then false else R.P q) = R.P q
    exact if_neg (Nat.not_lt_zero q)
  · show (if q < 0 ∧ S q = true then false else R.A q) = R.A q
    exact if_neg (fun h : q < 0 ∧ S q = true => absurd h.1 (Nat.not_lt_zero _))
  · show (if q < 0 ∧ S q = true then false else R.I q) = R.I q
    exact if_neg (fun h : q < 0 ∧ S q = true => absurd h.1 (Nat.not_lt_zero _))
/-- one more gone through -/
theorem Rd.gone_step (R : Rd) (S : Nat → Bool) (k : Nat) : R.gone S (k + 1) = { (if S k then (R.gone S k).settle k else R.gone S k) with P := updN (R.gone S k).P k false } := by
  have hp : (R.gone S (k + 1)).P = updN (R.gone S k).P k false := funext fun q => by
    show (if q < k + 1 then false else R.P q) = if q = k then false else if q < k then false else R.P q
    by_cases e : q = k
    · rw [if_pos e, if_pos (by omega)]
    · rw [if_neg e]
      by_cases h : q < k
      · rw [if_pos h, if_pos (by omega)]
      · rw [if_neg h, if_neg (by omega)]
  cases hS : S k with
  | true =>
    have key : ∀ {α : Type} (a c : Nat → α), (fun q => if q < k + 1 ∧ S q = true then a q else c q) = updN (fun q => if q < k ∧ S q = true then a q else c q) k (a k) := fun a c => funext fun q => by
      show (if q < k + 1 ∧ S q = true then a q else c q) = if q = k then a k else if q < k ∧ S q = true then a q else c q
      by_cases e : q = k
      · subst e; rw [if_pos rfl, if_pos ⟨by omega, hS⟩]
      · rw [if_neg e]
        by_cases h : q < k ∧ S q = true
        · rw [if_pos h, if_pos ⟨by omega, h.2⟩]
        · rw [if_neg h, if_neg (fun h' => h ⟨by omega, h'.2⟩)]
    exact Rd.same rfl (key _ _) rfl hp (key (fun _ => false) _) (key (fun _ => false) _) rfl rfl rfl rfl
  | false =>
    have key : ∀ {α : Type} (a c : Nat → α), (fun q => if q < k + 1 ∧ S q = true then a q else c q) = fun q => if q < k ∧ S q = true then a q else c q := fun a c => funext fun q => by
      show (if q < k + 1 ∧ S q = true then a q else c q) = if q < k ∧ S q = true then a q else c q
      by_cases h : q < k ∧ S q = true
      · rw [if_pos h, if_pos ⟨by omega, h.2⟩]
      · rw [if_neg h, if_neg (fun h' => h ⟨by
          have : q ≠ k := fun e => by rw [e, hS] at h'; exact absurd h'.2 (by decide)
          omega, h'.2⟩)]
    exact Rd.same rfl (key _ _) rfl hp (key (fun _ => false) _) (key (fun _ => false) _) rfl rfl rfl rfl
/-- the two devices hold the same -/
structure Rel (D : Dv) (R : Rd) : Prop where
  b : R.b = D.blocks
  calls : R.calls = D.calls
  arm : R.arm = D.fuse
  down : R.down = D.down
  F : ∀ q : Nat, q < R.b → R.F q = keptOf D q
  W : ∀ (q : Nat) l, q < R.b → D.pe q = some l → R.W q = l
  P : ∀ q : Nat, q < R.b → R.P q = (D.pe q).isSome
  A : ∀ q : Nat, q < R.b → R.A q = D.fa q
  I : ∀ q : Nat, q < R.b → R.I q = D.fi q
  E : ∀ q : Nat, q < R.b → R.E q = D.ev q
  out : ∀ i : Int, ¬ (0 ≤ i ∧ i < R.b) → D.pe i = none ∧ D.fa i = false
  np : D.np = cnt R.P R.b
  ne : D.ne = cnt R.E R.b
variable {D : Dv} {R : Rd}
theorem Rel.tick (h : Rel D R) : Rel D.tick R.tick := by
  unfold Dv.tick Rd.tick
  rw [h.down, h.arm]
  split
  · exact ⟨h.b, h.calls, rfl, rfl, h.F, h.W, h.P, h.A, h.I, h.E, h.out, h.np, h.ne⟩
  · exact h
theorem rel_new (b : Nat) (R : Rd) (hb : R.b = b) (hF : ∀ q, q < b → R.F q = List.replicate 256 0) (hP : R.P = fun _ => false) (hA : R.A = fun _ => false) (hI : R.I = fun _ => false) (hE : R.E = fun _ => false) (hc : R.calls = 0) (ha : R.arm = 0) (hd : R.down = false) : Rel (Dv.new b) R := by
  refine ⟨hb, hc, ha, hd, fun q hq => hF q (by omega), fun q l _ e => (by cases e), fun q _ => congrFun hP q, fun q _ => congrFun hA q, fun q _ => congrFun hI q, fun q _ => congrFun hE q, fun i _ => ⟨rfl, rfl⟩, ?_, ?_⟩
  · rw [hP, cnt_none _ fun _ _ => rfl]; rfl
  · rw [hE, cnt_none _ fun _ _ => rfl]; rfl
/-- an index within -/
theorem nat_in {i : Int} {b : Nat} (h : 0 ≤ i ∧ i < b) : ∃ q : Nat, i = q ∧ q < b ∧ i.toNat = q := ⟨i.toNat, by omega, by omega, rfl⟩
theorem upd_at {α : Type} (F : Int → α) (p q : Nat) (v : α) : upd F (p : Int) v (q : Int) = if q = p then v else F q := by
  by_cases e : q = p
  · subst e; rw [if_pos rfl, upd_same]
  · rw [if_neg e, upd_other _ _ (fun h => e (by omega))]
theorem upd_off {α : Type} (F : Int → α) (p b : Nat) (v : α) (hp : p < b) {i : Int} (hi : ¬ (0 ≤ i ∧ i < b)) : upd F (p : Int) v i = F i := upd_other _ _ (fun h => hi (by omega))
theorem Rel.write (h : Rel D R) (i : Int) (n : Nat) (l : List Nat) : (D.write i n l).1 = (R.write i n l).1 ∧ Rel (D.write i n l).2 (R.write i n l).2 := by
  have ht := h.tick
  obtain ⟨s1, s2, s3, s4, s5, s6, s7, s8, s9⟩ := R.tick_same
  obtain ⟨e1, e2, e3, e4, e5, e6, e7, e8, e9, e10⟩ := D.tick_same
  unfold Dv.write Rd.write
  rw [← ht.down, h.b]
  by_cases hd : R.tick.down = true
  · rw [if_pos hd, if_pos hd]; exact ⟨rfl, ht⟩
  · rw [if_neg hd, if_neg hd]
    by_cases hi : 0 ≤ i ∧ i < D.blocks
    · rw [if_pos hi, if_pos hi]
      by_cases hn : n = 256
      · rw [if_pos hn, if_pos hn]
        obtain ⟨p, rfl, hp, e⟩ := nat_in hi
        rw [e]
        have hpb : p < R.b := by rw [h.b]; exact hp
        have hpt : p < R.tick.b := by rw [s1]; exact hpb
        refine ⟨rfl, ht.b, by show R.calls + 1 = D.tick.calls + 1; rw [e9, h.calls], ht.arm, ht.down, ht.F, fun q x hq hx => ?_, fun q hq => ?_, ht.A, ht.I, ht.E, fun j hj => ?_, ?_, ht.ne⟩
        · have hx' : upd D.tick.pe (p : Int) (some l) q = some x := hx
          rw [upd_at] at hx'
          show (if q = p then l else R.W q) = x
          by_cases c : q = p
          · rw [if_pos c] at hx' ⊢; exact Option.some.inj hx'
          · rw [if_neg c] at hx' ⊢; rw [← s3]; exact ht.W q x hq hx'
        · show (if q = p then true else R.P q) = (upd D.tick.pe (p : Int) (some l) q).isSome
          rw [upd_at]
          by_cases c : q = p
          · rw [if_pos c, if_pos c]; rfl
          · rw [if_neg c, if_neg c, ← s4]; exact ht.P q hq
        · show upd D.tick.pe (p : Int) (some l) j = none ∧ _
          rw [upd_off _ p R.tick.b _ hpt hj]
          exact ht.out j hj
        · show (if (D.tick.pe p).isSome then D.tick.np else D.tick.np + 1) = cnt (updN R.P p true) R.tick.b
          rw [cnt_on hpt, ← ht.P p hpt, ht.np, s4]
      · rw [if_neg hn, if_neg hn]; exact ⟨rfl, ht⟩
    · rw [if_neg hi, if_neg hi]; exact ⟨rfl, ht⟩
/-- pending ones gone through: S says which are kept -/
theorem Rel.gone (h : Rel D R) (S : Nat → Bool) (T : Int → Bool) (hT : ∀ q : Nat, q < R.b → T q = S q) (hS : ∀ q, q < R.b → S q = true → (D.pe q).isSome = true) (hO : ∀ i : Int, ¬ (0 ≤ i ∧ i < R.b) → T i = false) :
    Rel { D with fl := fun i => if T i then D.pe i else D.fl i, fa := fun i => if T i then false else D.fa i, fi := fun i => if T i then false else D.fi i, pe := fun _ => none, np := 0 } (R.gone S R.b) := by
  have key : ∀ {α : Type} (a c : Nat → α) (q : Nat), q < R.b → (if q < R.b ∧ S q = true then a q else c q) = if T q then a q else c q := fun a c q hq => by
    rw [hT q hq]
    by_cases hs : S q = true
    · rw [if_pos ⟨hq, hs⟩, if_pos hs]
    · rw [if_neg (fun h => hs h.2), if_neg hs]
  refine ⟨h.b, h.calls, h.arm, h.down, fun q hq => ?_, fun q l _ e => (by cases e), fun q hq => if_pos hq, fun q hq => ?_, fun q hq => ?_, h.E, fun i hi => ⟨rfl, ?_⟩, ?_, h.ne⟩
  · refine (key R.W R.F q hq).trans ?_
    show _ = (if T q then D.pe q else D.fl q).getD _
    by_cases ht : T q = true
    · rw [if_pos ht, if_pos ht]
      obtain ⟨l, hl⟩ := Option.isSome_iff_exists.1 (hS q hq (by rw [← hT q hq]; exact ht))
      rw [hl]; exact h.W q l hq hl
    · rw [if_neg ht, if_neg ht]; exact h.F q hq
  · refine (key (fun _ => false) R.A q hq).trans ?_
    show _ = if T q then false else D.fa q
    rw [h.A q hq]
  · refine (key (fun _ => false) R.I q hq).trans ?_
    show _ = if T q then false else D.fi q
    rw [h.I q hq]
  · show (if T i then false else D.fa i) = false
    rw [hO i hi]; exact (h.out i hi).2
  · show 0 = cnt (fun q => if q < R.b then false else R.P q) R.b
    rw [cnt_none _ fun q hq => if_pos hq]
theorem Rel.flush (h : Rel D R) : D.flushT.1 = R.flush.1 ∧ Rel D.flushT.2 R.flush.2 := by
  have ht := h.tick
  obtain ⟨s1, s2, s3, s4, s5, s6, s7, s8, s9⟩ := R.tick_same
  obtain ⟨e1, e2, e3, e4, e5, e6, e7, e8, e9, e10⟩ := D.tick_same
  unfold Dv.flushT Rd.flush
  rw [← ht.down]
  by_cases hd : R.tick.down = true
  · rw [if_pos hd, if_pos hd]; exact ⟨rfl, ht⟩
  · rw [if_neg hd, if_neg hd]
    have g := ht.gone R.P (fun i => (D.tick.pe i).isSome) (fun q hq => by rw [← ht.P q hq, s4]) (fun q hq hs => by rw [← ht.P q hq, s4]; exact hs) (fun i hi => by rw [(ht.out i hi).1]; rfl)
    rw [s1] at g
    refine ⟨rfl, g.b, by show R.calls + 1 = D.tick.calls + 1; rw [e9, h.calls], g.arm, g.down, g.F, g.W, g.P, g.A, g.I, g.E, g.out, g.np, g.ne⟩
/-- the pending ones, rising -/
def pl (P : Nat → Bool) : Nat → List Int
  | 0 => []
  | k + 1 => pl P k ++ (if P k then [((k : Nat) : Int)] else [])
theorem pl_len (P : Nat → Bool) : ∀ k, (pl P k).length = cnt P k
  | 0 => rfl
  | k + 1 => by
    show (pl P k ++ _).length = cnt P k + _
    rw [List.length_append, pl_len P k]
    cases P k <;> rfl
theorem pl_mem (P : Nat → Bool) (x : Int) : ∀ k, x ∈ pl P k ↔ ∃ q : Nat, q < k ∧ P q = true ∧ x = (q : Int)
  | 0 => by constructor
            · intro h; cases h
            · rintro ⟨q, h, _⟩; omega
  | k + 1 => by
    show x ∈ pl P k ++ _ ↔ _
    rw [List.mem_append, pl_mem P x k]
    constructor
    · rintro (⟨q, h1, h2, h3⟩ | h)
      · exact ⟨q, by omega, h2, h3⟩
      · cases hU : P k with
        | true => rw [hU] at h; exact ⟨k, by omega, hU, by simpa using h⟩
        | false => rw [hU] at h; cases h
    · rintro ⟨q, h1, h2, h3⟩
      by_cases e : q = k
      · subst e; right; rw [h2, h3]; exact List.mem_singleton.2 rfl
      · exact .inl ⟨q, by omega, h2, h3⟩
theorem pl_rise (P : Nat → Bool) : ∀ k, (pl P k).Pairwise (· < ·)
  | 0 => .nil
  | k + 1 => by
    show (pl P k ++ _).Pairwise _
    rw [List.pairwise_append]
    refine ⟨pl_rise P k, ?_, fun a ha b hb => ?_⟩
    · cases P k
      · exact .nil
      · exact List.pairwise_singleton _ _
    · obtain ⟨q, h1, _, h3⟩ := (pl_mem P a k).1 ha
      cases hU : P k with
      | true => rw [hU] at hb; have := List.mem_singleton.1 hb; omega
      | false => rw [hU] at hb; cases hb
theorem pl_pre (P : Nat → Bool) : ∀ k n, k ≤ n → ∃ t, pl P n = pl P k ++ t
  | k, 0, h => ⟨[], by rw [show k = 0 by omega]; rfl⟩
  | k, n + 1, h => by
    by_cases e : k = n + 1
    · exact ⟨[], by rw [e, List.append_nil]⟩
    · obtain ⟨t, ht⟩ := pl_pre P k n (by omega)
      exact ⟨t ++ _, by show pl P n ++ _ = _; rw [ht, List.append_assoc]⟩
theorem pl_at {P : Nat → Bool} {k b : Nat} (hk : k < b) (hP : P k = true) : (pl P b)[cnt P k]? = some ((k : Nat) : Int) := by
  obtain ⟨t, ht⟩ := pl_pre P (k + 1) b (by omega)
  have e : pl P (k + 1) = pl P k ++ [((k : Nat) : Int)] := by show pl P k ++ _ = _; rw [hP]; rfl
  rw [ht, e, ← pl_len P k, List.append_assoc, List.getElem?_append_right (Nat.le_refl _), Nat.sub_self]; rfl
theorem rise_inj {l : List Int} (h : l.Pairwise (· < ·)) {i j : Nat} {x : Int} (hi : l[i]? = some x) (hj : l[j]? = some x) : i = j := by
  obtain ⟨a1, a2⟩ := List.getElem?_eq_some_iff.1 hi
  obtain ⟨b1, b2⟩ := List.getElem?_eq_some_iff.1 hj
  rcases Nat.lt_trichotomy i j with q | q | q
  · have := List.pairwise_iff_getElem.1 h i j a1 b1 q; omega
  · exact q
  · have := List.pairwise_iff_getElem.1 h j i b1 a1 q; omega
theorem sel_at {P : Nat → Bool} {b : Nat} (zs : List Int) {q : Nat} (hq : q < b) : sel (pl P b) zs (q : Int) = (P q && pick zs (cnt P q)) := by
  have hgd : ∀ k, k < (pl P b).length → (pl P b)[k]? = some ((pl P b).getD k 0) := fun k hk => by rw [List.getD_eq_getElem?_getD, List.getElem?_eq_getElem hk]; rfl
  rw [Bool.eq_iff_iff]
  unfold sel
  rw [List.any_eq_true, Bool.and_eq_true]
  constructor
  · rintro ⟨k, hk, h⟩
    obtain ⟨h1, h2⟩ := Bool.and_eq_true_iff.1 h
    have h2 := of_decide_eq_true h2
    have hk' := List.mem_range.1 hk
    have hm := hgd k hk'
    rw [h2] at hm
    obtain ⟨q', hq', hP, e⟩ := (pl_mem P _ b).1 (List.mem_of_getElem? hm)
    obtain rfl : q' = q := by omega
    have := rise_inj (pl_rise P b) hm (pl_at hq hP)
    exact ⟨hP, by rw [← this]; exact h1⟩
  · rintro ⟨hP, hz⟩
    have ha := pl_at hq hP
    obtain ⟨b1, b2⟩ := List.getElem?_eq_some_iff.1 ha
    refine ⟨cnt P q, List.mem_range.2 b1, ?_⟩
    have hm := hgd _ b1
    rw [ha] at hm
    rw [hz, ← Option.some.inj hm]; simp
theorem rise_eqI : ∀ (l m : List Int), l.Pairwise (· < ·) → m.Pairwise (· < ·) → (∀ i, i ∈ l ↔ i ∈ m) → l = m
  | [], [], _, _, _ => rfl
  | [], y :: m, _, _, h => by have := (h y).2 List.mem_cons_self; cases this
  | x :: l, [], _, _, h => by have := (h x).1 List.mem_cons_self; cases this
  | x :: l, y :: m, hl, hm, h => by
    rw [List.pairwise_cons] at hl hm
    have e : x = y := by
      rcases List.mem_cons.1 ((h x).1 List.mem_cons_self) with e | e
      · exact e
      · rcases List.mem_cons.1 ((h y).2 List.mem_cons_self) with e2 | e2
        · exact e2.symm
        · have := hm.1 x e; have := hl.1 y e2; omega
    subst e
    rw [rise_eqI l m hl.2 hm.2 fun i => ⟨fun hi => ?_, fun hi => ?_⟩]
    · rcases List.mem_cons.1 ((h i).1 (List.mem_cons_of_mem _ hi)) with e | e
      · have := hl.1 i hi; omega
      · exact e
    · rcases List.mem_cons.1 ((h i).2 (List.mem_cons_of_mem _ hi)) with e | e
      · have := hm.1 i hi; omega
      · exact e
theorem Rel.crash (h : Rel D R) (ks zs : List Int) (hk : Keys D.pe ks) : Rel (D.crash ks zs) (R.crash zs) := by
  have hks : ks = pl R.P R.b := by
    refine rise_eqI ks (pl R.P R.b) hk.rise (pl_rise R.P R.b) fun x => ?_
    rw [hk.mem, pl_mem]
    constructor
    · intro e
      by_cases hx : 0 ≤ x ∧ x < R.b
      · obtain ⟨q, rfl, hq, _⟩ := nat_in hx
        exact ⟨q, hq, by rw [h.P q hq]; exact e, rfl⟩
      · rw [(h.out x hx).1] at e; cases e
    · rintro ⟨q, hq, hP, rfl⟩
      rw [← h.P q hq]; exact hP
  have g := h.gone (R.keeps zs) (sel ks zs) (fun q hq => by rw [hks]; exact sel_at zs hq) (fun q hq hs => by
      rw [← h.P q hq]; exact (Bool.and_eq_true_iff.1 hs).1) (fun i hi => by
      rw [hks]
      cases hs : sel (pl R.P R.b) zs i with
      | false => rfl
      | true =>
        exfalso
        unfold sel at hs
        rw [List.any_eq_true] at hs
        obtain ⟨k, hk1, h1⟩ := hs
        obtain ⟨h1, h2⟩ := Bool.and_eq_true_iff.1 h1
        have h2 := of_decide_eq_true h2
        have hk' := List.mem_range.1 hk1
        have : (pl R.P R.b)[k]? = some i := by rw [← h2, List.getD_eq_getElem?_getD, List.getElem?_eq_getElem hk']; rfl
        obtain ⟨q, hq, _, e⟩ := (pl_mem R.P _ R.b).1 (List.mem_of_getElem? this)
        exact hi (by omega))
  exact ⟨g.b, g.calls, rfl, rfl, g.F, g.W, g.P, g.A, g.I, g.E, g.out, g.np, g.ne⟩
theorem Rel.may (h : Rel D R) (i : Int) : D.may i = R.may i := by
  unfold Dv.may Rd.may
  rw [h.b]
  by_cases hi : 0 ≤ i ∧ i < D.blocks
  · obtain ⟨p, rfl, hp, e⟩ := nat_in hi
    rw [e, h.P p (by rw [h.b]; exact hp), h.A p (by rw [h.b]; exact hp)]
  · rw [decide_eq_false hi]; rfl
theorem may_in {i : Int} (h : R.may i = true) : 0 ≤ i ∧ i < R.b := of_decide_eq_true (Bool.and_eq_true_iff.1 h).1
theorem Rel.fault (h : Rel D R) {p : Nat} (hp : p < R.b) : Rel (D.fault (p : Int)) (R.fault p) := by
  refine ⟨h.b, h.calls, h.arm, h.down, h.F, h.W, h.P, fun q hq => ?_, h.I, fun q hq => ?_, fun i hi => ⟨(h.out i hi).1, ?_⟩, h.np, ?_⟩
  · show (if q = p then true else R.A q) = upd D.fa (p : Int) true q
    rw [upd_at, h.A q hq]
  · show (if q = p then true else R.E q) = upd D.ev (p : Int) true q
    rw [upd_at, h.E q hq]
  · show upd D.fa (p : Int) true i = false
    rw [upd_off _ p R.b _ hp hi]; exact (h.out i hi).2
  · show (if D.ev p then D.ne else D.ne + 1) = cnt (updN R.E p true) R.b
    rw [cnt_on hp, h.ne, h.E p hp]
theorem Rel.fail (h : Rel D R) (i : Int) : Rel (D.fail i) (R.fail i) := by
  unfold Dv.fail Rd.fail
  rw [h.may]
  by_cases hm : R.may i = true
  · rw [if_pos hm, if_pos hm]
    obtain ⟨p, rfl, hp, e⟩ := nat_in (may_in hm)
    rw [e]
    refine Rel.fault (D := { D with fi := upd D.fi (p : Int) true }) (R := { R with I := updN R.I p true }) ⟨h.b, h.calls, h.arm, h.down, h.F, h.W, h.P, h.A, fun q hq => ?_, h.E, h.out, h.np, h.ne⟩ hp
    show (if q = p then true else R.I q) = upd D.fi (p : Int) true q
    rw [upd_at, h.I q hq]
  · rw [if_neg hm, if_neg hm]; exact h
theorem Rel.mayS (h : Rel D R) (i at_ : Int) (t : Nat) : D.mayS i at_ t = R.mayS i at_ t := by unfold Dv.mayS Rd.mayS; rw [h.may]
theorem kept_lay (D : Dv) (p q : Nat) (l : List Nat) (E : Dv) (hE : E.fl = upd D.fl (p : Int) (some l)) : keptOf E q = if q = p then l else keptOf D q := by
  unfold keptOf
  rw [hE, upd_at]
  by_cases c : q = p
  · rw [if_pos c, if_pos c]; rfl
  · rw [if_neg c, if_neg c]
theorem Rel.spoil (h : Rel D R) (i at_ : Int) (t : Nat) : Rel (D.spoil i at_ t) (R.spoil i at_ t) := by
  unfold Dv.spoil Rd.spoil
  rw [h.mayS]
  by_cases hm : R.mayS i at_ t = true
  · rw [if_pos hm, if_pos hm]
    obtain ⟨p, rfl, hp, e⟩ := nat_in (may_in (Bool.and_eq_true_iff.1 hm).1)
    rw [e]
    refine Rel.fault (D := { D with fl := upd D.fl (p : Int) (some (Crc.turned (keptOf D p) at_ t)) }) (R := { R with F := updN R.F p (Crc.turned (R.F p) at_ t) }) ⟨h.b, h.calls, h.arm, h.down, fun q hq => ?_, h.W, h.P, h.A, h.I, h.E, h.out, h.np, h.ne⟩ hp
    rw [kept_lay D p q _ _ rfl]
    show (if q = p then _ else R.F q) = _
    rw [h.F q hq, h.F p hp]
  · rw [if_neg hm, if_neg hm]; exact h
theorem Rel.raw (h : Rel D R) {p : Nat} (hp : p < R.b) (l : List Nat) : Rel (D.raw (p : Int) l) (R.raw p l) := by
  refine ⟨h.b, h.calls, h.arm, h.down, fun q hq => ?_, fun q x hq hx => ?_, fun q hq => ?_, fun q hq => ?_, fun q hq => ?_, h.E, fun i hi => ⟨?_, ?_⟩, ?_, h.ne⟩
  · rw [kept_lay D p q l _ rfl]
    show (if q = p then updN R.W p l p else R.F q) = _
    rw [h.F q hq]
    by_cases c : q = p
    · rw [if_pos c, if_pos c]; exact if_pos rfl
    · rw [if_neg c, if_neg c]
  · have hx' : upd D.pe (p : Int) none q = some x := hx
    rw [upd_at] at hx'
    show (if q = p then l else R.W q) = x
    by_cases c : q = p
    · rw [if_pos c] at hx'; cases hx'
    · rw [if_neg c] at hx' ⊢; exact h.W q x hq hx'
  · show (if q = p then false else R.P q) = (upd D.pe (p : Int) none q).isSome
    rw [upd_at]
    by_cases c : q = p
    · rw [if_pos c, if_pos c]; rfl
    · rw [if_neg c, if_neg c]; exact h.P q hq
  · show (if q = p then false else R.A q) = upd D.fa (p : Int) false q
    rw [upd_at, h.A q hq]
  · show (if q = p then false else R.I q) = upd D.fi (p : Int) false q
    rw [upd_at, h.I q hq]
  · show upd D.pe (p : Int) none i = none
    rw [upd_off _ p R.b _ hp hi]; exact (h.out i hi).1
  · show upd D.fa (p : Int) false i = false
    rw [upd_off _ p R.b _ hp hi]; exact (h.out i hi).2
  · show (if (D.pe p).isSome then D.np - 1 else D.np) = cnt (updN R.P p false) R.b
    rw [cnt_off hp, h.np, h.P p hp]
theorem Rel.get (h : Rel D R) (i : Int) : D.get i = R.get i := by
  unfold Dv.get Rd.get
  rw [h.down, h.b]
  by_cases hd : D.down = true
  · rw [if_pos hd, if_pos hd]
  · rw [if_neg hd, if_neg hd]
    by_cases hi : 0 ≤ i ∧ i < D.blocks
    · rw [if_pos hi, if_pos hi]
      obtain ⟨p, rfl, hp, e⟩ := nat_in hi
      have hp : p < R.b := by rw [h.b]; exact hp
      rw [e, h.P p hp, h.I p hp, h.F p hp]
      unfold Dv.read
      cases hx : D.pe p with
      | some l => rw [h.W p l hp hx]; rfl
      | none =>
        cases hy : D.fi p with
        | true => rfl
        | false => rfl
    · rw [if_neg hi, if_neg hi]
end Go.Proofs.YtagbnacffiagcaaDoor.RDevW

namespace Go.Proofs.YtagbnacffiagcaaDoor.RDevW
open Go Go.RowKit Go.Maps Go.Proofs.YtagbnacffiagcaaDoor.Mem Go.Proofs.YtagbnacffiagcaaDoor.MapsW Go.Proofs.YtagbnacffiagcaaDoor.DevG
set_option linter.unusedVariables false
set_option maxRecDepth 100000

variable {lo x : Nat} {G : Gs} {R : Rd}
theorem rhas_w (i : Int) (w : World) (h : RAt w lo x G R) (hi : Fits i) :
    Calls Tryd.prog 95 #[ptr x, .int .i64 i] w fun e w' => e = .returned (.bool (decide (0 ≤ i ∧ i < R.b))) ∧ w = w' := by
  obtain ⟨cf, cw, c0, c1, c2, c3, c4, c5, c6, c7, c8, f6, f7, f8⟩ := h.c
  have hb2 := h.b2
  clear h
  by_cases h0 : 0 ≤ i
  · by_cases h1 : i < R.b
    · go_enter Tryd.func95, Tryd.ntmps95
      go_wp2
      go_ret
      exact ⟨ret_bool (by simp [h0, h1]), rfl⟩
    · have h2 : decide (i < (R.b : Int)) = false := decide_eq_false h1
      go_enter Tryd.func95, Tryd.ntmps95
      go_wp2
      go_ret
      exact ⟨ret_bool (by simp), rfl⟩
  · have h2 : decide ((0 : Int) ≤ i) = false := decide_eq_false h0
    go_enter Tryd.func95, Tryd.ntmps95
    go_wp2
    go_ret
    exact ⟨ret_bool (by simp), rfl⟩
theorem Rd.tick_down {R : Rd} (h : R.down = true) : R.tick = R := by unfold Rd.tick; rw [h]; rfl
theorem Rd.tick_zero {R : Rd} (h : R.arm = 0) : R.tick = R := by unfold Rd.tick; rw [h]; simp
theorem Rd.tick_some {R : Rd} (h : R.down = false) (h2 : 0 < R.arm) : R.tick = { R with arm := R.arm - 1, down := decide (R.arm = 1) } := by
  unfold Rd.tick; rw [h, decide_eq_true h2]; rfl
theorem rpower_w (w : World) (h : RAt w lo x G R) (hz : R.arm ≤ 9223372036854775807) :
    Calls Tryd.prog 94 #[ptr x] w fun e w' => e = .returned (.int .i64 (if R.tick.down then 106 else 0)) ∧ RAt w' lo x G R.tick ∧ Turn [x] w w' := by
  have H := hid h
  obtain ⟨cf, cw, c0, c1, c2, c3, c4, c5, c6, c7, c8, f6, f7, f8⟩ := h.c
  cases hd : R.down
  · rw [hd] at c8
    by_cases hf : 0 < R.arm
    · have h1 := h.setArm (R.arm - 1)
      have h2 := h1.setDown true
      have e1 : (((R.arm - 1 : Nat) : Int)) = (R.arm : Int) - 1 := by omega
      rw [Rd.tick_some hd hf]
      rw [e1] at h1 h2
      have t1 : Turn [x] w (w.setCell ⟨x, 7, none⟩ (.int .i64 ((R.arm : Int) - 1))) := Turn.setCell w x 7 _ (by simp)
      by_cases h1f : R.arm = 1
      · have e2 : decide (R.arm = 1) = true := decide_eq_true h1f
        have e4 : ((R.arm : Int) - 1 == 0) = true := by rw [beq_iff_eq]; omega
        have e3 : decide ((R.arm : Int) - 1 = 0) = true := decide_eq_true (by omega)
        rw [e2]
        obtain ⟨_, _, z0, z1, z2, z3, z4, z5, z6, z7, z8, g6, g7, g8⟩ := h1.c
        simp only [e1] at z7
        have H2 := hid h2
        clear h1 h2 e1 e2 h1f
        go_enter Tryd.func94, Tryd.ntmps94
        go_wp2
        go_ret
        exact ⟨rfl, H2.out, t1.then (Turn.setCell _ x 8 _ (by simp))⟩
      · have e2 : decide (R.arm = 1) = false := decide_eq_false h1f
        have e4 : ((R.arm : Int) - 1 == 0) = false := by rw [beq_eq_false_iff_ne]; omega
        have e3 : decide ((R.arm : Int) - 1 = 0) = false := decide_eq_false (by omega)
        rw [e2]
        obtain ⟨_, _, z0, z1, z2, z3, z4, z5, z6, z7, z8, g6, g7, g8⟩ := h1.c
        simp only [e1] at z7
        have H1 := hid (show RAt (w.setCell ⟨x, 7, none⟩ (.int .i64 ((R.arm : Int) - 1))) lo x G { R with arm := R.arm - 1, down := false } by
          have : ({ R with arm := R.arm - 1, down := false } : Rd) = { R with arm := R.arm - 1 } := by rw [← hd]
          rw [this]; exact h1)
        clear h1 h2 e1 e2 h1f
        go_enter Tryd.func94, Tryd.ntmps94
        go_wp2
        go_ret
        exact ⟨rfl, H1.out, t1⟩
    · have h0 : R.arm = 0 := by omega
      rw [Rd.tick_zero h0, hd]
      rw [h0] at c7
      clear h0
      go_enter Tryd.func94, Tryd.ntmps94
      go_wp2
      go_ret
      exact ⟨rfl, H.out, Turn.refl _ _⟩
  · rw [hd] at c8
    rw [Rd.tick_down hd, hd]
    go_enter Tryd.func94, Tryd.ntmps94
    go_wp2
    go_ret
    exact ⟨rfl, H.out, Turn.refl _ _⟩
theorem rmem (x : Nat) (G : Gs) : x ∈ rown x G ∧ G.f ∈ rown x G ∧ G.w ∈ rown x G ∧ G.p ∈ rown x G ∧ G.a ∈ rown x G ∧ G.i ∈ rown x G ∧ G.e ∈ rown x G := by simp
theorem row_of {w : World} {base : Nat} {v : Value} {l : List Nat} (h : w.ownsRow base 5 1 v 256 (nums .u8 l)) : ∃ g cap, v = .slice (some ⟨g, 0, none⟩) 256 cap ∧ Nums .u8 w (some ⟨g, 0, none⟩) 256 cap l := by
  obtain ⟨a, c, rfl, hr⟩ := ownsRow_slice h
  obtain ⟨g, rfl⟩ := own_some h (by decide)
  exact ⟨g, c, rfl, hr⟩
theorem cellFar {w : World} {d x j k : Nat} {u v : Value} (h : d ≠ x) (hc : w.cell? ⟨d, k, none⟩ = some u) : (w.setCell ⟨x, j, none⟩ v).cell? ⟨d, k, none⟩ = some u :=
  (World.cell?_of_block (w := w) (heap_setCell_other w ⟨x, j, none⟩ d v h)).trans hc
/-- a copy of a block's bytes -/
theorem copy_w (a : Option Addr) (cap : Nat) (l : List Nat) (w : World) (hn : Nums .u8 w a 256 cap l) :
    Calls Tryd.prog 96 #[.slice a 256 cap] w fun e w' => ∃ g c, e = .returned (.slice (some ⟨g, 0, none⟩) 256 c) ∧ Nums .u8 w' (some ⟨g, 0, none⟩) 256 c l ∧ Below w.heap.size w w' := by
  refine (RefW.bytes_w a 256 cap l w hn (by decide)).mono ?_
  rintro e w' ⟨v, rfl, own, hb⟩
  obtain ⟨g, c, rfl, hn'⟩ := row_of own
  exact ⟨g, c, rfl, hn', hb⟩
set_option maxHeartbeats 3200000 in
theorem rsettle_w (q : Nat) (w : World) (h : RAt w lo x G R) (hq : q < R.b) :
    Calls Tryd.prog 97 #[ptr x, .int .i64 q] w fun e w' => e = .returned (.tuple #[]) ∧ RAt w' lo x G (R.settle q) ∧ Turn (rown x G) w w' := by
  obtain ⟨cf, cw, c0, c1, c2, c3, c4, c5, c6, c7, c8, f6, f7, f8⟩ := h.c
  obtain ⟨a1, a2, a3, a4, a5, a6, b1, _⟩ := h.ne
  obtain ⟨r, rc, hw1, hw2⟩ := h.rw.at_ q hq
  obtain ⟨r', rc', hf1, _⟩ := h.rf.at_ q hq
  have hA1 := h.ra.at_ q hq
  have hI1 := h.ri.at_ q hq
  have ff := frozen_of h.rf.blk q
  have fa := frozen_of h.ra.blk q
  have fi := frozen_of h.ri.blk q
  have H := hid h
  have hb2 := h.b2
  have hcp := fun wz (hb : Below w.heap.size w wz) => copy_w (some ⟨r, 0, none⟩) rc (R.W q) wz (hw2.below hb)
  have hqi : ((q : Nat) : Int) < (R.b : Int) := by omega
  clear h
  go_enter Tryd.func97, Tryd.ntmps97
  go_wp2_with fail
  go_region_held3 (fun w' => w'.cell? ⟨x, 0, none⟩ = some (.slice (some ⟨G.f, 0, none⟩) R.b cf) ∧ w'.cell? ⟨x, 1, none⟩ = some (.slice (some ⟨G.w, 0, none⟩) R.b cw) ∧ w'.cell? ⟨G.w, q, none⟩ = some (.slice (some ⟨r, 0, none⟩) 256 rc))
    (first | exact ⟨c0, c1, hw1⟩ | exact ⟨k0, k1, k2⟩ | exact ⟨cellFar a1 k0, cellFar a1 k1, cellFar b1.symm k2⟩ | go_keep)
    ((go_at_call 96; refine (hcp _ (below_drewN (Below.refl _ _) _)).mono ?_; rintro e w3 ⟨g, gc, rfl, n3, b3⟩; dsimp only; have k0 := kept b3 c0; have k1 := kept b3 c1; have k2 := kept b3 hw1; have kf := kept b3 hf1; have H3 := hid ((H.out.below (below_drewN (Below.refl _ _) 1)).below b3); have ff3 := frozen_of H3.out.rf.blk q))
  have h4 := H3.out.setF q n3
  have T4 : Turn (rown x G) w (w3.setCell ⟨G.f, q, none⟩ (.slice (some ⟨g, 0, none⟩) 256 gc)) := (Turn.of_below ((below_drewN (Below.refl _ _) 1).trans (b3.mono (by simp)))).then (Turn.setCell _ _ _ _ (rmem x G).2.1)
  have h5 := h4.setA q false
  have h6 := h5.setI q false
  obtain ⟨_, _, _, _, _, y3, _⟩ := h4.c
  have y3a := h4.ra.at_ q hq
  have y3f := frozen_of h4.ra.blk q
  obtain ⟨_, _, _, _, _, _, z4, _⟩ := h5.c
  have z4a := h5.ri.at_ q hq
  have z4f := frozen_of h5.ri.blk q
  have H6 := hid h6
  have T6 := hid ((T4.then (Turn.setCell _ _ q (.bool false) (rmem x G).2.2.2.2.1)).then (Turn.setCell _ _ q (.bool false) (rmem x G).2.2.2.2.2.1))
  clear h4 h5 h6 T4 c0 c1 c2 c3 c4 c5 c6 c7 c8 f6 f7 f8 b3 n3 k0 k1 k2 kf H3 ff3 hcp hw1 hw2 hf1 hA1 hI1
  go_wp2_with fail
  refine bodyPost_end (v := .tuple #[]) (by simp [results, Tryd.results97, go_sem]) rfl ?_
  exact ⟨rfl, H6.out, T6.out⟩
end Go.Proofs.YtagbnacffiagcaaDoor.RDevW

namespace Go.Proofs.YtagbnacffiagcaaDoor.RDevW
open Go Go.RowKit Go.Maps Go.Proofs.YtagbnacffiagcaaDoor.Mem Go.Proofs.YtagbnacffiagcaaDoor.MapsW Go.Proofs.YtagbnacffiagcaaDoor.DevG
set_option linter.unusedVariables false
set_option maxRecDepth 100000

variable {lo x : Nat} {G : Gs} {R : Rd}
/-- an error's number -/
def code : Option Nat → Int
  | none => 0
  | some k => 101 + (k : Int)
theorem turn1 {w w' : World} (h : Turn [x] w w') : Turn (rown x G) w w' := h.mono fun y hy => by rw [List.mem_singleton.1 hy]; exact (rmem x G).1
set_option maxHeartbeats 3200000 in
theorem rwrite_w (i : Int) (a : Option Addr) (len cap : Nat) (l : List Nat) (w : World) (h : RAt w lo x G R) (hi : Fits i) (hl : Nums .u8 w a len cap l) (hz : R.arm ≤ 9223372036854775807) (hc : R.calls < 1000000) :
    Calls Tryd.prog 39 #[ptr x, .int .i64 i, .slice a len cap] w fun e w' => e = .returned (.int .i64 (code (R.write i len l).1)) ∧ RAt w' lo x G (R.write i len l).2 ∧ Turn (rown x G) w w' := by
  have hpw := rpower_w w h hz
  obtain ⟨hlb1, hlb2⟩ := hl.bound
  obtain ⟨s1, s2, s3, s4, s5, s6, s7, s8, s9⟩ := R.tick_same
  have N8 := hid h.xno8
  clear h
  unfold Rd.write
  by_cases hd : R.tick.down = true
  · rw [if_pos hd]
    rw [if_pos hd] at hpw
    clear hl
    go_enter Tryd.func39, Tryd.ntmps39
    go_wp2_with fail
    refine hpw.mono ?_
    rintro e w1 ⟨rfl, h1, t1⟩
    go_wp2_with fail
    go_ret
    exact ⟨rfl, h1, turn1 t1⟩
  rw [if_neg hd]
  rw [if_neg hd] at hpw
  clear hd
  by_cases hin : 0 ≤ i ∧ i < R.b
  · rw [if_pos hin]
    obtain ⟨q, rfl, hq, e⟩ := nat_in hin
    rw [e]
    have hq' : q < R.tick.b := by rw [s1]; exact hq
    have hdec : decide (0 ≤ ((q : Nat) : Int) ∧ ((q : Nat) : Int) < (R.tick.b : Int)) = true := decide_eq_true (by omega)
    by_cases hn : len = 256
    · subst hn
      rw [if_pos rfl]
      go_enter Tryd.func39, Tryd.ntmps39
      go_wp2_with fail
      refine hpw.mono ?_
      rintro e w1 ⟨rfl, h1, t1⟩
      have L1 := hid (nums_turn hl t1 fun y hy => by rw [List.mem_singleton.1 hy]; exact N8.out)
      have H1 := hid h1
      have hh := rhas_w (q : Int) w1 h1 hi
      rw [hdec] at hh
      clear hpw h1 hl
      go_wp2_with fail
      refine hh.mono ?_
      rintro e w' ⟨rfl, rfl⟩
      clear hh
      go_wp2_with fail
      obtain ⟨cf, cw, c0, c1, c2, c3, c4, c5, c6, c7, c8, f6, f7, f8⟩ := H1.out.c
      obtain ⟨a1, a2, a3, a4, a5, a6, b1, _⟩ := H1.out.ne
      obtain ⟨r, rc, hw1, hw2⟩ := H1.out.rw.at_ q hq'
      have hcp := fun wz (hb : Below w1.heap.size w1 wz) => copy_w a cap l wz (L1.out.below hb)
      have hqi : ((q : Nat) : Int) < (R.tick.b : Int) := by omega
      have hb2 := H1.out.b2
      go_region_held3 (fun w' => w'.cell? ⟨x, 1, none⟩ = some (.slice (some ⟨G.w, 0, none⟩) R.tick.b cw))
        (first | exact c1 | exact k1 | exact cellFar a2 k1 | go_keep)
        ((go_at_call 96; refine (hcp _ (below_drewN (Below.refl _ _) _)).mono ?_; rintro e w3 ⟨g, gc, rfl, n3, b3⟩; dsimp only; have k1 := kept b3 c1; have kf := kept b3 hw1; have H3 := hid ((H1.out.below (below_drewN (Below.refl _ _) 1)).below b3); have ff3 := frozen_of H3.out.rw.blk q))
      have h4 := H3.out.setW q n3
      have T4 : Turn (rown x G) w (w3.setCell ⟨G.w, q, none⟩ (.slice (some ⟨g, 0, none⟩) 256 gc)) := (turn1 t1).then ((Turn.of_below ((below_drewN (Below.refl _ _) 1).trans (b3.mono (by simp)))).then (Turn.setCell _ _ _ _ (rmem x G).2.2.1))
      have h5 := h4.setP q true
      have h6 := h5.setCalls (R.calls + 1)
      obtain ⟨_, _, _, _, y2, _⟩ := h4.c
      have y2a := h4.rp.at_ q hq'
      have y2f := frozen_of h4.rp.blk q
      obtain ⟨_, _, _, _, _, _, _, _, z6, _, _, z6f, _⟩ := h5.c
      dsimp only at z6
      rw [s8] at z6
      rw [show ((R.calls + 1 : Nat) : Int) = (R.calls : Int) + 1 by omega] at h6
      have H6 := hid h6
      have T6 := hid ((T4.then (Turn.setCell _ _ q (.bool true) (rmem x G).2.2.2.1)).then (Turn.setCell _ _ 6 (.int .i64 ((R.calls : Int) + 1)) (rmem x G).1))
      have S3 := hid s3
      have S4 := hid s4
      clear h4 h5 h6 T4 c0 c1 c2 c3 c4 c5 c6 c7 c8 f6 f7 f8 b3 n3 k1 kf H3 ff3 hcp hw1 hw2 s1 s2 s3 s4 s5 s6 s7 s8 s9 t1
      go_wp2_with fail
      go_ret
      refine ⟨rfl, ?_, T6.out⟩
      have := H6.out
      rw [S3.out, S4.out] at this
      exact this
    · rw [if_neg hn]
      have hx : ((len : Int) != 256) = true := by rw [bne_iff_ne]; omega
      clear hl hn
      go_enter Tryd.func39, Tryd.ntmps39
      go_wp2_with fail
      refine hpw.mono ?_
      rintro e w1 ⟨rfl, h1, t1⟩
      have hh := rhas_w (q : Int) w1 h1 hi
      rw [hdec] at hh
      go_wp2_with fail
      refine hh.mono ?_
      rintro e w' ⟨rfl, rfl⟩
      go_wp2_with fail
      go_ret
      exact ⟨rfl, h1, turn1 t1⟩
  · rw [if_neg hin]
    have hdec : decide (0 ≤ i ∧ i < (R.tick.b : Int)) = false := decide_eq_false (by rw [s1]; exact hin)
    clear hl hin
    go_enter Tryd.func39, Tryd.ntmps39
    go_wp2_with fail
    refine hpw.mono ?_
    rintro e w1 ⟨rfl, h1, t1⟩
    have hh := rhas_w i w1 h1 hi
    rw [hdec] at hh
    go_wp2_with fail
    refine hh.mono ?_
    rintro e w' ⟨rfl, rfl⟩
    go_wp2_with fail
    go_ret
    exact ⟨rfl, h1, turn1 t1⟩
/-- what is handed back of a read -/
def RGot (w : World) (r : Except Nat (List Nat)) (e : Ending) (w' : World) : Prop := match r with
  | .ok l => ∃ g cap, e = .returned (.tuple #[.slice (some ⟨g, 0, none⟩) 256 cap, .int .i64 0]) ∧ Nums .u8 w' (some ⟨g, 0, none⟩) 256 cap l
  | .error k => e = .returned (.tuple #[.slice none 0 0, .int .i64 (101 + (k : Int))])
set_option maxHeartbeats 3200000 in
theorem rread_w (i : Int) (w : World) (h : RAt w lo x G R) (hi : Fits i) :
    Calls Tryd.prog 49 #[ptr x, .int .i64 i] w fun e w' => RGot w (R.get i) e w' ∧ Below w.heap.size w w' := by
  obtain ⟨cf, cw, c0, c1, c2, c3, c4, c5, c6, c7, c8, f6, f7, f8⟩ := h.c
  have hh := rhas_w i w h hi
  unfold Rd.get
  cases hd : R.down with
  | true =>
    rw [hd] at c8
    rw [if_pos rfl]
    clear h hh
    go_enter Tryd.func49, Tryd.ntmps49
    go_wp2_with fail
    go_ret2
    exact ⟨rfl, Below.refl _ _⟩
  | false =>
    rw [hd] at c8
    rw [if_neg (by decide)]
    by_cases hin : 0 ≤ i ∧ i < R.b
    · rw [if_pos hin]
      obtain ⟨q, rfl, hq, e⟩ := nat_in hin
      rw [e]
      have hdec : decide (0 ≤ ((q : Nat) : Int) ∧ ((q : Nat) : Int) < (R.b : Int)) = true := decide_eq_true (by omega)
      rw [hdec] at hh
      have hqi : ((q : Nat) : Int) < (R.b : Int) := by omega
      have hb2 := h.b2
      have hp := h.rp.at_ q hq
      cases hP : R.P q with
      | true =>
        rw [hP] at hp
        rw [if_pos rfl]
        obtain ⟨r, rc, hw1, hw2⟩ := h.rw.at_ q hq
        have hcp := copy_w (some ⟨r, 0, none⟩) rc (R.W q) w hw2
        clear h
        go_enter Tryd.func49, Tryd.ntmps49
        go_wp2_with fail
        refine hh.mono ?_
        rintro e w' ⟨rfl, rfl⟩
        go_wp2_with fail
        refine hcp.mono ?_
        rintro e w2 ⟨g, gc, rfl, n2, b2⟩
        go_wp2_with fail
        go_ret2
        exact ⟨⟨g, gc, rfl, n2⟩, b2⟩
      | false =>
        rw [hP] at hp
        rw [if_neg (by decide)]
        have hf := h.ri.at_ q hq
        cases hI : R.I q with
        | true =>
          rw [hI] at hf
          rw [if_pos rfl]
          clear h
          go_enter Tryd.func49, Tryd.ntmps49
          go_wp2_with fail
          refine hh.mono ?_
          rintro e w' ⟨rfl, rfl⟩
          go_wp2_with fail
          go_ret2
          exact ⟨rfl, Below.refl _ _⟩
        | false =>
          rw [hI] at hf
          rw [if_neg (by decide)]
          obtain ⟨r, rc, hw1, hw2⟩ := h.rf.at_ q hq
          have hcp := copy_w (some ⟨r, 0, none⟩) rc (R.F q) w hw2
          clear h
          go_enter Tryd.func49, Tryd.ntmps49
          go_wp2_with fail
          refine hh.mono ?_
          rintro e w' ⟨rfl, rfl⟩
          go_wp2_with fail
          refine hcp.mono ?_
          rintro e w2 ⟨g, gc, rfl, n2, b2⟩
          go_wp2_with fail
          go_ret2
          exact ⟨⟨g, gc, rfl, n2⟩, b2⟩
    · rw [if_neg hin]
      rw [decide_eq_false hin] at hh
      clear h hin
      go_enter Tryd.func49, Tryd.ntmps49
      go_wp2_with fail
      refine hh.mono ?_
      rintro e w' ⟨rfl, rfl⟩
      go_wp2_with fail
      go_ret2
      exact ⟨rfl, Below.refl _ _⟩
theorem rarm_w (n : Int) (w : World) (h : RAt w lo x G R) (hi : Fits n) :
    Calls Tryd.prog 42 #[ptr x, .int .i64 n] w fun e w' => e = .returned (.tuple #[]) ∧ RAt w' lo x G { R with arm := n.toNat } ∧ Turn (rown x G) w w' := by
  obtain ⟨cf, cw, c0, c1, c2, c3, c4, c5, c6, c7, c8, f6, f7, f8⟩ := h.c
  have h2 := h.setArm n.toNat
  rw [show ((n.toNat : Nat) : Int) = max n 0 by omega] at h2
  have H := hid h2
  clear h h2
  go_enter Tryd.func42, Tryd.ntmps42
  go_wp2_with fail
  refine bodyPost_end (v := .tuple #[]) (by simp [results, Tryd.results42, go_sem]) rfl ?_
  exact ⟨rfl, H.out, Turn.setCell w x 7 _ (rmem x G).1⟩
set_option maxHeartbeats 3200000 in
theorem rfail_w (i : Int) (w : World) (h : RAt w lo x G R) (hi : Fits i) :
    Calls Tryd.prog 46 #[ptr x, .int .i64 i] w fun e w' => e = .returned (.bool (R.may i)) ∧ RAt w' lo x G (R.fail i) ∧ Turn (rown x G) w w' := by
  obtain ⟨cf, cw, c0, c1, c2, c3, c4, c5, c6, c7, c8, f6, f7, f8⟩ := h.c
  have hh := rhas_w i w h hi
  have H := hid h
  have hb2 := h.b2
  unfold Rd.fail
  by_cases hin : 0 ≤ i ∧ i < R.b
  · obtain ⟨q, rfl, hq, e⟩ := nat_in hin
    rw [decide_eq_true hin] at hh
    have hqi : ((q : Nat) : Int) < (R.b : Int) := by omega
    have hm : R.may (q : Int) = (!R.P q && !R.A q) := by unfold Rd.may; rw [decide_eq_true hin, e]; rfl
    rw [hm, e]
    have hp := h.rp.at_ q hq
    have ha := h.ra.at_ q hq
    clear h hm
    cases hP : R.P q with
    | true =>
      rw [hP] at hp
      clear hP ha hin
      go_enter Tryd.func46, Tryd.ntmps46
      go_wp2_with fail
      refine hh.mono ?_
      rintro e w' ⟨rfl, rfl⟩
      clear hh
      go_wp2_with fail
      go_ret
      exact ⟨rfl, H.out, Turn.refl _ _⟩
    | false =>
      rw [hP] at hp
      cases hA : R.A q with
      | true =>
        rw [hA] at ha
        clear hP hA hin
        go_enter Tryd.func46, Tryd.ntmps46
        go_wp2_with fail
        refine hh.mono ?_
        rintro e w' ⟨rfl, rfl⟩
        clear hh
        go_wp2_with fail
        go_ret
        exact ⟨rfl, H.out, Turn.refl _ _⟩
      | false =>
        rw [hA] at ha
        clear hP hA hin
        have g0 := H.out.ri.at_ q hq
        have g0f := frozen_of H.out.ri.blk q
        have h4 := H.out.setI q true
        obtain ⟨_, _, _, _, _, y3, _⟩ := h4.c
        have y3a := h4.ra.at_ q hq
        have y3f := frozen_of h4.ra.blk q
        have h5 := h4.setA q true
        obtain ⟨_, _, _, _, _, _, _, z5, _⟩ := h5.c
        have z5a := h5.re.at_ q hq
        have z5f := frozen_of h5.re.blk q
        have H6 := hid (h5.setE q true)
        have T6 := hid (((Turn.setCell w G.i q (.bool true) (rmem x G).2.2.2.2.2.1).then (Turn.setCell _ _ q (.bool true) (rmem x G).2.2.2.2.1)).then (Turn.setCell _ _ q (.bool true) (rmem x G).2.2.2.2.2.2))
        clear h4 h5
        go_enter Tryd.func46, Tryd.ntmps46
        go_wp2_with fail
        refine hh.mono ?_
        rintro e w' ⟨rfl, rfl⟩
        clear hh
        go_wp2_with fail
        go_ret
        exact ⟨rfl, H6.out, T6.out⟩
  · rw [decide_eq_false hin] at hh
    have hm : R.may i = false := by unfold Rd.may; rw [decide_eq_false hin]; rfl
    rw [hm]
    clear h hin hm
    go_enter Tryd.func46, Tryd.ntmps46
    go_wp2_with fail
    refine hh.mono ?_
    rintro e w' ⟨rfl, rfl⟩
    clear hh
    go_wp2_with fail
    go_ret
    exact ⟨rfl, H.out, Turn.refl _ _⟩
/-- a copy of a block's bytes, some turned -/
theorem turned_w (a : Option Addr) (cap : Nat) (l : List Nat) (at_ : Int) (t : Nat) (w : World) (hn : Nums .u8 w a 256 cap l) (hb : Crc.Bytes l) (ha : Fits at_) (ht : t < 4294967296) :
    Calls Tryd.prog 100 #[.slice a 256 cap, .int .i64 at_, .int .u32 t] w fun e w' => ∃ g c, e = .returned (.slice (some ⟨g, 0, none⟩) 256 c) ∧ Nums .u8 w' (some ⟨g, 0, none⟩) 256 c (Crc.turned l at_ t) ∧ Below w.heap.size w w' := by
  refine (CrcL.rturned_w a 256 cap l at_ t w hn hb (by decide) ha.1 ha.2 ht).mono ?_
  rintro e w' ⟨v, rfl, own, hb⟩
  obtain ⟨g, c, rfl, hn'⟩ := row_of own
  exact ⟨g, c, rfl, hn', hb⟩
set_option maxHeartbeats 6400000 in
theorem rspoil_w (i at_ : Int) (t : Nat) (w : World) (h : RAt w lo x G R) (hi : Fits i) (hat : Fits at_) (ht : t < 4294967296) (hby : ∀ q, q < R.b → Crc.Bytes (R.F q)) :
    Calls Tryd.prog 45 #[ptr x, .int .i64 i, .int .i64 at_, .int .u32 t] w fun e w' => e = .returned (.bool (R.mayS i at_ t)) ∧ RAt w' lo x G (R.spoil i at_ t) ∧ Turn (rown x G) w w' := by
  obtain ⟨cf, cw, c0, c1, c2, c3, c4, c5, c6, c7, c8, f6, f7, f8⟩ := h.c
  have hh := rhas_w i w h hi
  have H := hid h
  have hb2 := h.b2
  unfold Rd.spoil
  by_cases hin : 0 ≤ i ∧ i < R.b
  · obtain ⟨q, rfl, hq, e⟩ := nat_in hin
    rw [decide_eq_true hin] at hh
    have hqi : ((q : Nat) : Int) < (R.b : Int) := by omega
    have hm : R.mayS (q : Int) at_ t = ((!R.P q && !R.A q) && decide (0 ≤ at_ ∧ at_ ≤ 252 ∧ t ≠ 0)) := by unfold Rd.mayS Rd.may; rw [decide_eq_true hin, e]; rfl
    rw [hm, e]
    have hp := h.rp.at_ q hq
    have ha := h.ra.at_ q hq
    clear h hm
    cases hP : R.P q with
    | true =>
      rw [hP] at hp
      clear hP ha hin
      go_enter Tryd.func45, Tryd.ntmps45
      go_wp2_with fail
      refine hh.mono ?_
      rintro e w' ⟨rfl, rfl⟩
      clear hh
      go_wp2_with fail
      go_ret
      exact ⟨rfl, H.out, Turn.refl _ _⟩
    | false =>
      rw [hP] at hp
      cases hA : R.A q with
      | true =>
        rw [hA] at ha
        clear hP hA hin
        go_enter Tryd.func45, Tryd.ntmps45
        go_wp2_with fail
        refine hh.mono ?_
        rintro e w' ⟨rfl, rfl⟩
        clear hh
        go_wp2_with fail
        go_ret
        exact ⟨rfl, H.out, Turn.refl _ _⟩
      | false =>
        rw [hA] at ha
        clear hP hA hin
        by_cases k1 : at_ < 0
        · have e1 : decide (at_ < 0) = true := decide_eq_true k1
          have e2 : decide (0 ≤ at_ ∧ at_ ≤ 252 ∧ t ≠ 0) = false := decide_eq_false (by omega)
          rw [e2]
          clear k1 e2
          go_enter Tryd.func45, Tryd.ntmps45
          go_wp2_with fail
          refine hh.mono ?_
          rintro e w' ⟨rfl, rfl⟩
          clear hh
          go_wp2_with fail
          go_ret
          exact ⟨rfl, H.out, Turn.refl _ _⟩
        have e1 : decide (at_ < 0) = false := decide_eq_false k1
        by_cases k2 : (252 : Int) < at_
        · have e3 : decide ((252 : Int) < at_) = true := decide_eq_true k2
          have e2 : decide (0 ≤ at_ ∧ at_ ≤ 252 ∧ t ≠ 0) = false := decide_eq_false (by omega)
          rw [e2]
          clear k1 k2 e2
          go_enter Tryd.func45, Tryd.ntmps45
          go_wp2_with fail
          refine hh.mono ?_
          rintro e w' ⟨rfl, rfl⟩
          clear hh
          go_wp2_with fail
          go_ret
          exact ⟨rfl, H.out, Turn.refl _ _⟩
        have e3 : decide ((252 : Int) < at_) = false := decide_eq_false k2
        by_cases k3 : t = 0
        · have e2 : decide (0 ≤ at_ ∧ at_ ≤ 252 ∧ t ≠ 0) = false := decide_eq_false (by omega)
          rw [e2]
          subst k3
          clear k1 k2 e2
          go_enter Tryd.func45, Tryd.ntmps45
          go_wp2_with fail
          refine hh.mono ?_
          rintro e w' ⟨rfl, rfl⟩
          clear hh
          go_wp2_with fail
          go_ret
          exact ⟨rfl, H.out, Turn.refl _ _⟩
        have e4 : (((t : Nat) : Int) == 0) = false := by rw [beq_eq_false_iff_ne]; omega
        have e2 : decide (0 ≤ at_ ∧ at_ ≤ 252 ∧ t ≠ 0) = true := decide_eq_true (by omega)
        rw [e2]
        clear k1 k2 k3 e2
        obtain ⟨r', rc', hf1, hf2⟩ := H.out.rf.at_ q hq
        obtain ⟨a1, a2, a3, a4, a5, a6, b1, _⟩ := H.out.ne
        have hcp := fun wz (hb : Below w.heap.size w wz) => turned_w (some ⟨r', 0, none⟩) rc' (R.F q) at_ t wz (hf2.below hb) (hby q hq) hat ht
        go_enter Tryd.func45, Tryd.ntmps45
        go_wp2_with fail
        refine hh.mono ?_
        rintro e w' ⟨rfl, rfl⟩
        clear hh
        go_wp2_with fail
        go_region_law ((go_simp; go_at_call 100; refine (hcp _ (by first | exact (Below.refl _ _).drew | exact Below.refl _ _)).mono ?_; rintro e w3 ⟨g, gc, rfl, n3, b3⟩; have k0 := kept b3 (show w.drew.cell? ⟨x, 0, none⟩ = _ from c0); have kf := kept b3 (show w.drew.cell? ⟨G.f, q, none⟩ = _ from hf1); have H3 := hid ((H.out.below (Below.refl _ _).drew).below b3); have ff3 := frozen_of H3.out.rf.blk q; have h4 := H3.out.setF q n3; have T4 : Turn (rown x G) w (w3.setCell ⟨G.f, q, none⟩ (.slice (some ⟨g, 0, none⟩) 256 gc)) := ((Turn.of_below ((Below.refl w.heap.size w).drew.trans (b3.mono (Nat.le_refl _)))).then (Turn.setCell _ _ _ _ (rmem x G).2.1)); obtain ⟨_, _, _, _, _, y3, _⟩ := h4.c; have y3a := h4.ra.at_ q hq; have y3f := frozen_of h4.ra.blk q; have h5 := h4.setA q true; obtain ⟨_, _, _, _, _, _, _, z5, _⟩ := h5.c; have z5a := h5.re.at_ q hq; have z5f := frozen_of h5.re.blk q; have H6 := hid (h5.setE q true); have T6 := hid ((T4.then (Turn.setCell _ _ q (.bool true) (rmem x G).2.2.2.2.1)).then (Turn.setCell _ _ q (.bool true) (rmem x G).2.2.2.2.2.2))))
        all_goals
          go_wp2_with fail
          go_ret
          exact ⟨rfl, H6.out, T6.out⟩
  · rw [decide_eq_false hin] at hh
    have hm : R.mayS i at_ t = false := by unfold Rd.mayS Rd.may; rw [decide_eq_false hin]; rfl
    rw [hm]
    clear h hin hm
    go_enter Tryd.func45, Tryd.ntmps45
    go_wp2_with fail
    refine hh.mono ?_
    rintro e w' ⟨rfl, rfl⟩
    clear hh
    go_wp2_with fail
    go_ret
    exact ⟨rfl, H.out, Turn.refl _ _⟩
end Go.Proofs.YtagbnacffiagcaaDoor.RDevW

namespace Go.Proofs.YtagbnacffiagcaaDoor.RDevW
open Go Go.RowKit Go.Maps Go.Proofs.YtagbnacffiagcaaDoor.Mem Go.Proofs.YtagbnacffiagcaaDoor.MapsW Go.Proofs.YtagbnacffiagcaaDoor.DevG Go.Proofs.YtagbnacffiagcaaDoor.Ints
set_option linter.unusedVariables false
set_option maxRecDepth 100000

variable {lo x : Nat} {G : Gs} {R : Rd}
set_option maxHeartbeats 3200000 in
theorem count_w (g b : Nat) (F : Nat → Bool) (w : World) (h : Bls w g b F) (hb : b ≤ 6000) :
    Calls Tryd.prog 101 #[.slice (some ⟨g, 0, none⟩) b b] w fun e w' => e = .returned (.int .i64 (cnt F b : Nat)) ∧ w = w' := by
  have H := hid h
  clear h
  go_enter Tryd.func101, Tryd.ntmps101
  go_wp2_with fail
  go_loopw [3, 4] (fun nv iv w' => ∃ k : Nat, k ≤ b ∧ iv = .int .i64 (k : Int) ∧ nv = .int .i64 (cnt F k : Nat) ∧ w' = w) (fun _ iv _ => b - (RowKit.intOf iv).toNat)
  case atStart => exact ⟨0, by omega, rfl, rfl, rfl⟩
  case round =>
    obtain ⟨k, hk, rfl, rfl, rfl⟩ := hrel
    by_cases hlt : k < b
    · have hc := H.out.at_ k hlt
      have hcs : cnt F (k + 1) = cnt F k + (F k).toNat := rfl
      have hcl := cnt_le F k
      cases hF : F k with
      | true =>
        rw [hF] at hc hcs
        have HCS := hid hcs
        clear hcs hF
        generalize cnt F k = y at *
        go_wp2_with fail
        go_roundw
        case rel => exact ⟨k + 1, by omega, by go_num, by rw [HCS.out]; go_num, trivial⟩
        case measure => simp [RowKit.intOf]; omega
      | false =>
        rw [hF] at hc hcs
        have HCS := hid hcs
        clear hcs hF
        generalize cnt F k = y at *
        go_wp2_with fail
        go_roundw
        case rel => exact ⟨k + 1, by omega, by go_num, by rw [HCS.out]; rfl, trivial⟩
        case measure => simp [RowKit.intOf]; omega
    · obtain rfl : k = b := by omega
      go_wp2_with fail
      go_ret
      exact ⟨rfl, rfl⟩
theorem rpending_w (w : World) (h : RAt w lo x G R) :
    Calls Tryd.prog 53 #[ptr x] w fun e w' => e = .returned (.int .i64 (cnt R.P R.b : Nat)) ∧ w = w' := by
  obtain ⟨cf, cw, c0, c1, c2, c3, c4, c5, c6, c7, c8, f6, f7, f8⟩ := h.c
  have hc := count_w G.p R.b R.P w h.rp h.b2
  clear h
  go_enter Tryd.func53, Tryd.ntmps53
  go_wp2_with fail
  refine hc.mono ?_
  rintro e w' ⟨rfl, rfl⟩
  go_wp2_with fail
  go_ret
  exact ⟨rfl, rfl⟩
theorem rever_w (w : World) (h : RAt w lo x G R) :
    Calls Tryd.prog 57 #[ptr x] w fun e w' => e = .returned (.int .i64 (cnt R.E R.b : Nat)) ∧ w = w' := by
  obtain ⟨cf, cw, c0, c1, c2, c3, c4, c5, c6, c7, c8, f6, f7, f8⟩ := h.c
  have hc := count_w G.e R.b R.E w h.re h.b2
  clear h
  go_enter Tryd.func57, Tryd.ntmps57
  go_wp2_with fail
  refine hc.mono ?_
  rintro e w' ⟨rfl, rfl⟩
  go_wp2_with fail
  go_ret
  exact ⟨rfl, rfl⟩
set_option maxHeartbeats 3200000 in
theorem rraw_no (i : Int) (a : Option Addr) (len cap : Nat) (w : World) (h : RAt w lo x G R) (hi : Fits i) (hl : len ≤ 100000) (hno : ¬ (0 ≤ i ∧ i < R.b) ∨ len ≠ 256) :
    Calls Tryd.prog 48 #[ptr x, .int .i64 i, .slice a len cap] w fun e w' => e = .returned (.bool false) ∧ w = w' := by
  have hh := rhas_w i w h hi
  clear h
  by_cases hin : 0 ≤ i ∧ i < R.b
  · have hx : ((len : Int) != 256) = true := by rw [bne_iff_ne]; rcases hno with q | q; exact absurd hin q; omega
    rw [decide_eq_true hin] at hh
    clear hin hno
    go_enter Tryd.func48, Tryd.ntmps48
    go_wp2_with fail
    refine hh.mono ?_
    rintro e w' ⟨rfl, rfl⟩
    clear hh
    go_wp2_with fail
    go_ret
    exact ⟨rfl, rfl⟩
  · rw [decide_eq_false hin] at hh
    clear hin hno
    go_enter Tryd.func48, Tryd.ntmps48
    go_wp2_with fail
    refine hh.mono ?_
    rintro e w' ⟨rfl, rfl⟩
    clear hh
    go_wp2_with fail
    go_ret
    exact ⟨rfl, rfl⟩
set_option maxHeartbeats 3200000 in
theorem rraw_ok (q : Nat) (a : Option Addr) (cap : Nat) (l : List Nat) (w : World) (h : RAt w lo x G R) (hq : q < R.b) (hl : Nums .u8 w a 256 cap l) :
    Calls Tryd.prog 48 #[ptr x, .int .i64 q, .slice a 256 cap] w fun e w' => e = .returned (.bool true) ∧ RAt w' lo x G (R.raw q l) ∧ Turn (rown x G) w w' := by
  have hb2 := h.b2
  have hh := rhas_w (q : Int) w h (fits_nat (by omega))
  rw [decide_eq_true (by omega)] at hh
  obtain ⟨cf, cw, c0, c1, c2, c3, c4, c5, c6, c7, c8, f6, f7, f8⟩ := h.c
  obtain ⟨a1, a2, a3, a4, a5, a6, b1, _⟩ := h.ne
  obtain ⟨r, rc, hw1, hw2⟩ := h.rw.at_ q hq
  have hcp := fun wz (hb : Below w.heap.size w wz) => copy_w a cap l wz (hl.below hb)
  have hqi : ((q : Nat) : Int) < (R.b : Int) := by omega
  have H := hid h
  clear h hl
  go_enter Tryd.func48, Tryd.ntmps48
  go_wp2_with fail
  refine hh.mono ?_
  rintro e w' ⟨rfl, rfl⟩
  clear hh
  go_wp2_with fail
  go_region_held3 (fun w' => w'.cell? ⟨x, 1, none⟩ = some (.slice (some ⟨G.w, 0, none⟩) R.b cw))
    (first | exact c1 | exact k1 | exact cellFar a2 k1 | go_keep)
    ((go_at_call 96; refine (hcp _ (below_drewN (Below.refl _ _) _)).mono ?_; rintro e w3 ⟨g, gc, rfl, n3, b3⟩; dsimp only; have k1 := kept b3 c1; have kf := kept b3 hw1; have H3 := hid ((H.out.below (below_drewN (Below.refl _ _) 1)).below b3); have ff3 := frozen_of H3.out.rw.blk q))
  have h4 := H3.out.setW q n3
  have T4 := hid (show Turn (rown x G) w (w3.setCell ⟨G.w, q, none⟩ (.slice (some ⟨g, 0, none⟩) 256 gc)) from ((Turn.of_below ((below_drewN (Below.refl _ _) 1).trans (b3.mono (by simp)))).then (Turn.setCell _ _ _ _ (rmem x G).2.2.1)))
  have hs := rsettle_w q _ h4 hq
  clear h4 c0 c1 c2 c3 c4 c5 c6 c7 c8 f6 f7 f8 b3 n3 k1 kf H3 ff3 hcp hw1 hw2
  go_wp2_with fail
  refine hs.mono ?_
  rintro e w5 ⟨rfl, h5, t5⟩
  obtain ⟨_, _, _, _, y2, _⟩ := h5.c
  have y2a := h5.rp.at_ q hq
  have y2f := frozen_of h5.rp.blk q
  have H6 := hid (h5.setP q false)
  have T6 := hid ((T4.out.then t5).then (Turn.setCell w5 G.p q (.bool false) (rmem x G).2.2.2.1))
  clear hs h5 t5
  go_wp2_with fail
  go_ret
  exact ⟨rfl, H6.out, T6.out⟩
/-- the pending ones, gone through, are as they were from k on -/
theorem gone_at (R : Rd) (S : Nat → Bool) (k q : Nat) (h : k ≤ q) : (R.gone S k).P q = R.P q := if_neg (by omega)
theorem gone_b (R : Rd) (S : Nat → Bool) (k : Nat) : (R.gone S k).b = R.b := rfl
set_option maxHeartbeats 6400000 in
theorem rflush_w (w : World) (h : RAt w lo x G R) (hz : R.arm ≤ 9223372036854775807) (hc : R.calls < 1000000) :
    Calls Tryd.prog 40 #[ptr x] w fun e w' => e = .returned (.int .i64 (code R.flush.1)) ∧ RAt w' lo x G R.flush.2 ∧ Turn (rown x G) w w' := by
  have hpw := rpower_w w h hz
  obtain ⟨s1, s2, s3, s4, s5, s6, s7, s8, s9⟩ := R.tick_same
  clear h
  unfold Rd.flush
  by_cases hd : R.tick.down = true
  · rw [if_pos hd]
    rw [if_pos hd] at hpw
    go_enter Tryd.func40, Tryd.ntmps40
    go_wp2_with fail
    refine hpw.mono ?_
    rintro e w1 ⟨rfl, h1, t1⟩
    go_wp2_with fail
    go_ret
    exact ⟨rfl, h1, turn1 t1⟩
  rw [if_neg hd]
  rw [if_neg hd] at hpw
  clear hd
  obtain ⟨T, hT⟩ : ∃ T, R.tick = T := ⟨_, rfl⟩
  rw [hT] at hpw s1 s4 s8 ⊢
  rw [← s4, ← s1]
  have HS8 := hid s8
  clear hT s1 s2 s3 s4 s5 s6 s7 s8 s9
  go_enter Tryd.func40, Tryd.ntmps40
  go_wp2_with fail
  refine hpw.mono ?_
  rintro e w1 ⟨rfl, h1, t1⟩
  clear hpw
  have HT1 := hid (turn1 (G := G) t1)
  clear t1
  have hb2 := h1.b2
  have H1 := hid h1
  clear h1
  go_wp2_with fail
  go_loopw [4] (fun iv wr => ∃ k : Nat, k ≤ T.b ∧ iv = .int .i64 (k : Int) ∧ RAt wr lo x G (T.gone T.P k) ∧ Turn (rown x G) w wr) (fun iv _ => T.b - (RowKit.intOf iv).toNat)
  case atStart => exact ⟨0, by omega, rfl, by rw [Rd.gone_zero]; exact H1.out, HT1.out⟩
  case round =>
    obtain ⟨k, hk, rfl, hr, ht⟩ := hrel
    obtain ⟨cf, cw, c0, c1, c2, c3, c4, c5, c6, c7, c8, f6, f7, f8⟩ := hr.c
    simp only [gone_b] at c0 c1 c2 c3 c4 c5
    by_cases hlt : k < T.b
    · have hp := hr.rp.at_ k hlt
      rw [gone_at T T.P k k (Nat.le_refl _)] at hp
      have hkb : ((k : Nat) : Int) < (T.b : Int) := by omega
      have hst := T.gone_step T.P k
      cases hP : T.P k with
      | true =>
        rw [hP] at hp hst
        rw [if_pos rfl] at hst
        have HST := hid hst
        have HT := hid ht
        have hs := rsettle_w k wr hr hlt
        clear hr hst hP ht
        go_wp2_with fail
        refine hs.mono ?_
        rintro e w5 ⟨rfl, h5, t5⟩
        obtain ⟨_, _, _, _, y2, _⟩ := h5.c
        have y2a := h5.rp.at_ k hlt
        have y2f := frozen_of h5.rp.blk k
        have h6 := h5.setP k false
        have H6 := hid (show RAt (w5.setCell ⟨G.p, k, none⟩ (.bool false)) lo x G (T.gone T.P (k + 1)) by rw [HST.out]; exact h6)
        have T6 := hid ((HT.out.then t5).then (Turn.setCell w5 G.p k (.bool false) (rmem x G).2.2.2.1))
        clear hs h5 h6 t5 HST
        go_wp2_with fail
        go_roundw
        case rel => exact ⟨k + 1, by omega, by go_num, H6.out, T6.out⟩
        case measure => simp [RowKit.intOf]; omega
      | false =>
        rw [hP] at hp hst
        have hsame : T.gone T.P (k + 1) = T.gone T.P k := by
          rw [hst, if_neg (by decide)]
          refine Rd.same rfl rfl rfl (funext fun q => ?_) rfl rfl rfl rfl rfl rfl
          show (if q = k then false else (T.gone T.P k).P q) = _
          by_cases e : q = k
          · rw [if_pos e, e, gone_at T T.P k k (Nat.le_refl _), hP]
          · rw [if_neg e]
        have HSM := hid hsame
        have HR := hid hr
        have HT := hid ht
        clear hr hst hP ht hsame
        go_wp2_with fail
        go_roundw
        case rel => exact ⟨k + 1, by omega, by go_num, by rw [HSM.out]; exact HR.out, HT.out⟩
        case measure => simp [RowKit.intOf]; omega
    · obtain rfl : k = T.b := by omega
      have h6 := hr.setCalls (R.calls + 1)
      rw [show ((R.calls + 1 : Nat) : Int) = (R.calls : Int) + 1 by omega] at h6
      have e6 : (T.gone T.P T.b).calls = R.calls := HS8.out
      rw [e6] at c6
      have H6 := hid h6
      have T6 := hid (ht.then (Turn.setCell wr x 6 (.int .i64 ((R.calls : Int) + 1)) (rmem x G).1))
      clear h6 hr ht e6
      go_wp2_with fail
      go_ret
      exact ⟨rfl, H6.out, T6.out⟩
end Go.Proofs.YtagbnacffiagcaaDoor.RDevW

namespace Go.Proofs.YtagbnacffiagcaaDoor.DevG
open Go Go.RowKit
theorem pick_odd (z : Int) : (bits .and .i64 z 1 == 1) = (z.tmod 2 != 0) := by
  have e : bits .and .i64 z 1 = z % 2 := by
    show IntKind.i64.wrap ((BitVec.ofInt 64 z &&& BitVec.ofInt 64 1).toNat : Int) = _
    have h1 : (BitVec.ofInt 64 1).toNat = 1 := by decide
    rw [BitVec.toNat_and, h1, Nat.and_one_is_mod, BitVec.toNat_ofInt, IntKind.wrap_i64]
    omega
  rw [e, Bool.eq_iff_iff, beq_iff_eq, bne_iff_ne]
  have := Int.tmod_eq_emod (a := z) (b := 2)
  rw [this]
  split <;> omega
end Go.Proofs.YtagbnacffiagcaaDoor.DevG

namespace Go.Proofs.YtagbnacffiagcaaDoor.RDevW
open Go Go.RowKit Go.Maps Go.Proofs.YtagbnacffiagcaaDoor.Mem Go.Proofs.YtagbnacffiagcaaDoor.MapsW Go.Proofs.YtagbnacffiagcaaDoor.DevG Go.Proofs.YtagbnacffiagcaaDoor.Ints
set_option linter.unusedVariables false
set_option maxRecDepth 100000

variable {lo x : Nat} {G : Gs} {R : Rd}
theorem gone_skip (T : Rd) (S : Nat → Bool) (k : Nat) (hS : S k = false) (hP : T.P k = false) : T.gone S (k + 1) = T.gone S k := by
  rw [T.gone_step, hS, if_neg (by decide)]
  refine Rd.same rfl rfl rfl (funext fun q => ?_) rfl rfl rfl rfl rfl rfl
  show (if q = k then false else (T.gone S k).P q) = _
  by_cases e : q = k
  · rw [if_pos e, e, gone_at T S k k (Nat.le_refl _), hP]
  · rw [if_neg e]
theorem keeps_is (R : Rd) (zs : List Int) (k : Nat) (hP : R.P k = true) (c : Nat) (hc : cnt R.P k = c) (b : Bool) (hb : pick zs c = b) : R.keeps zs k = b := by
  unfold Rd.keeps; rw [hP, hc, hb]; rfl
set_option maxHeartbeats 6400000 in
theorem rcrash_w (a : Option Addr) (len cap : Nat) (zs : List Int) (w : World) (h : RAt w lo x G R) (hz : ∀ w', Turn (rown x G) w w' → Is w' a len cap zs) :
    Calls Tryd.prog 44 #[ptr x, .slice a len cap] w fun e w' => e = .returned (.tuple #[]) ∧ RAt w' lo x G (R.crash zs) ∧ Turn (rown x G) w w' := by
  have hb2 := h.b2
  have HI := hid h
  have hlen := (hz w (Turn.refl _ _)).len
  obtain ⟨q1, q2⟩ := (hz w (Turn.refl _ _)).bound
  have HZ := hid hz
  clear h hz
  go_enter Tryd.func44, Tryd.ntmps44
  go_wp2_with fail
  go_loopw [4, 5] (fun kv iv wr => ∃ i : Nat, i ≤ R.b ∧ iv = .int .i64 (i : Int) ∧ kv = .int .i64 (cnt R.P i : Nat) ∧ RAt wr lo x G (R.gone (R.keeps zs) i) ∧ Turn (rown x G) w wr) (fun _ iv _ => R.b - (RowKit.intOf iv).toNat)
  case atStart => exact ⟨0, by omega, rfl, rfl, by rw [Rd.gone_zero]; exact HI.out, Turn.refl _ _⟩
  case round =>
    obtain ⟨i, hi, rfl, rfl, hr, ht⟩ := hrel
    obtain ⟨cf, cw, c0, c1, c2, c3, c4, c5, c6, c7, c8, f6, f7, f8⟩ := hr.c
    simp only [gone_b] at c0 c1 c2 c3 c4 c5
    by_cases hlt : i < R.b
    · have hp := hr.rp.at_ i hlt
      rw [gone_at R _ i i (Nat.le_refl _)] at hp
      have hpf := frozen_of hr.rp.blk i
      have hib : ((i : Nat) : Int) < (R.b : Int) := by omega
      have hcs : cnt R.P (i + 1) = cnt R.P i + (R.P i).toNat := rfl
      have hcl := cnt_le R.P i
      cases hP : R.P i with
      | false =>
        rw [hP] at hp hcs
        have HSM := hid (gone_skip R (R.keeps zs) i (by unfold Rd.keeps; rw [hP]; rfl) hP)
        have HCS := hid hcs
        have HR := hid hr
        have HT := hid ht
        clear hr hP ht hcs
        generalize cnt R.P i = c at *
        go_wp2_with fail
        go_roundw
        case rel => exact ⟨i + 1, by omega, by go_num, by rw [HCS.out]; rfl, by rw [HSM.out]; exact HR.out, HT.out⟩
        case measure => simp [RowKit.intOf]; omega
      | true =>
        rw [hP] at hp hcs
        have hkp := keeps_is R zs i hP
        have hst := R.gone_step (R.keeps zs) i
        have HCS := hid hcs
        have HT := hid ht
        clear hP ht hcs
        by_cases hc : cnt R.P i < len
        · have hc' : cnt R.P i < zs.length := by rw [hlen]; exact hc
          obtain ⟨bz, oz, rfl, hz0⟩ := (HZ.out wr HT.out).at hc'
          have hpk : pick zs (cnt R.P i) = (zs[cnt R.P i].tmod 2 != 0) := by
            unfold pick; rw [List.getElem?_eq_getElem hc']; exact pick_odd _
          cases hod : (zs[cnt R.P i].tmod 2 != 0) with
          | true =>
            have hst : R.gone (R.keeps zs) (i + 1) = { (R.gone (R.keeps zs) i).settle i with P := updN (R.gone (R.keeps zs) i).P i false } := by rw [hst, hkp _ rfl _ (hpk.trans hod), if_pos rfl]
            have HST := hid hst
            have hs := rsettle_w i wr hr hlt
            clear hr hst hkp hpk HZ
            generalize zs[cnt R.P i] = z at *
            generalize cnt R.P i = c at *
            go_wp2_with fail
            refine hs.mono ?_
            rintro e w5 ⟨rfl, h5, t5⟩
            obtain ⟨_, _, _, _, y2, _⟩ := h5.c
            have y2a := h5.rp.at_ i hlt
            have y2f := frozen_of h5.rp.blk i
            have h6 := h5.setP i false
            have H6 := hid (show RAt (w5.setCell ⟨G.p, i, none⟩ (.bool false)) lo x G (R.gone (R.keeps zs) (i + 1)) by rw [HST.out]; exact h6)
            have T6 := hid ((HT.out.then t5).then (Turn.setCell w5 G.p i (.bool false) (rmem x G).2.2.2.1))
            clear hs h5 h6 t5 HST
            go_wp2_with fail
            go_roundw
            case rel => exact ⟨i + 1, by omega, by go_num, by rw [HCS.out]; go_num, H6.out, T6.out⟩
            case measure => simp [RowKit.intOf]; omega
          | false =>
            have hst : R.gone (R.keeps zs) (i + 1) = { (R.gone (R.keeps zs) i) with P := updN (R.gone (R.keeps zs) i).P i false } := by rw [hst, hkp _ rfl _ (hpk.trans hod), if_neg (by decide)]
            have h6 := hr.setP i false
            have H6 := hid (show RAt (wr.setCell ⟨G.p, i, none⟩ (.bool false)) lo x G (R.gone (R.keeps zs) (i + 1)) by rw [hst]; exact h6)
            have T6 := hid (HT.out.then (Turn.setCell wr G.p i (.bool false) (rmem x G).2.2.2.1))
            clear hr hst h6 hkp hpk HZ
            generalize zs[cnt R.P i] = z at *
            generalize cnt R.P i = c at *
            go_wp2_with fail
            go_roundw
            case rel => exact ⟨i + 1, by omega, by go_num, by rw [HCS.out]; go_num, H6.out, T6.out⟩
            case measure => simp [RowKit.intOf]; omega
        · have hpk : pick zs (cnt R.P i) = false := by unfold pick; rw [List.getElem?_eq_none (by omega)]
          have hst : R.gone (R.keeps zs) (i + 1) = { (R.gone (R.keeps zs) i) with P := updN (R.gone (R.keeps zs) i).P i false } := by rw [hst, hkp _ rfl _ hpk, if_neg (by decide)]
          have h6 := hr.setP i false
          have H6 := hid (show RAt (wr.setCell ⟨G.p, i, none⟩ (.bool false)) lo x G (R.gone (R.keeps zs) (i + 1)) by rw [hst]; exact h6)
          have T6 := hid (HT.out.then (Turn.setCell wr G.p i (.bool false) (rmem x G).2.2.2.1))
          clear hr hst h6 hkp hpk HZ
          generalize cnt R.P i = c at *
          have hcd : decide ((c : Int) < (len : Int)) = false := decide_eq_false (by omega)
          go_wp2_with fail
          go_roundw
          case rel => exact ⟨i + 1, by omega, by go_num, by rw [HCS.out]; go_num, H6.out, T6.out⟩
          case measure => simp [RowKit.intOf]; omega
    · obtain rfl : i = R.b := by omega
      have h7 := hr.setDown false
      have h8 := h7.setArm 0
      obtain ⟨_, _, z0, z1, z2, z3, z4, z5, z6, z7, z8, g6, g7, g8⟩ := h7.c
      have H8 := hid h8
      have T8 := hid ((ht.then (Turn.setCell wr x 8 (.bool false) (rmem x G).1)).then (Turn.setCell _ x 7 (.int .i64 ((0 : Nat) : Int)) (rmem x G).1))
      clear hr ht h7 h8 HZ
      go_wp2_with fail
      refine bodyPost_end (v := .tuple #[]) (by simp [results, Tryd.results44, go_sem]) rfl ?_
      exact ⟨rfl, H8.out, T8.out⟩
end Go.Proofs.YtagbnacffiagcaaDoor.RDevW
