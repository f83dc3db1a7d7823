/- The walk of a store's Used; The keys of a map of rows, rising: slices.Sorted of maps.Keys; Maps of ints keyed by an int: 1 at each of the keys; how many; The keys of a map of ints, rising: slices.Sorted of maps.Keys; The keys of a store's maps; The walk of page's count: how many tables there are. -/
import Derived.Test.YtbjfgdahfpfgdaaGreatDoorPageFaultsP7
import Derived.Test.YtbjfgdahfpfgdaaGreatDoorPageFaultsP8
import Derived.Test.YtbjfgdahfpfgdaaGreatDoorPageFaultsP4
import Derived.Test.YtbjfgdahfpfgdaaGreatDoorShelf
import Derived.Test.YtbjfgdahfpfgdaaGreatDoorPageFaultsP1
import Derived.Test.YtbjfgdahfpfgdaaGreatDoorPageFaultsP2
import Derived.Test.YtbjfgdahfpfgdaaGreatDoorShelfN
import Derived.Lib.SliceRun
import Derived.Lib.SlBuf
namespace Go.Proofs.YtbjfgdahfpfgdaaGreatDoor.PgW
open Go Go.RowKit Go.Maps Go.Proofs.YtbjfgdahfpfgdaaGreatDoor.Mem Go.Proofs.YtbjfgdahfpfgdaaGreatDoor.MapsW Go.Proofs.YtbjfgdahfpfgdaaGreatDoor.SeeW Go.Proofs.YtbjfgdahfpfgdaaGreatDoor.DevG Go.Proofs.YtbjfgdahfpfgdaaGreatDoor.PairG Go.Proofs.YtbjfgdahfpfgdaaGreatDoor.RefsW Go.Proofs.YtbjfgdahfpfgdaaGreatDoor.PgP Go.Proofs.YtbjfgdahfpfgdaaGreatDoor.Ints Go.Proofs.YtbjfgdahfpfgdaaGreatDoor.ConcatW Go.Proofs.YtbjfgdahfpfgdaaGreatDoor.SortW
set_option linter.unusedVariables false
set_option maxRecDepth 100000

abbrev mkR (c : Int × Int) : Value := .agg #[.int .i64 c.1, .int .u32 c.2]
theorem invR (v : Value) (y : DataW Unit × List MemPlace) (h : refR v = some y) : ∃ c, v = mkR c := by
  cases v with
  | agg vs =>
    obtain ⟨l⟩ := vs
    have h' : refL l = some y := h
    unfold refL at h'
    split at h'
    · exact ⟨(_, _), rfl⟩
    · cases h'
  | _ => cases h
theorem rg_of {R : Value → Option (DataW Unit × List MemPlace)} {w w' : World} {b r n : Nat} {D : DataW Unit} {left : Lit → Bool} {cnt : Nat} (h : w.ranges Tryz.prog 3 R b r n D left cnt) (e1 : w'.heap[b]? = w.heap[b]?) (e2 : w'.heap[r]? = w.heap[r]?) : w'.ranges Tryz.prog 3 R b r n D left cnt := by
  obtain ⟨es, clock, since, seen, c0, h1, h2, h3, h4, h5, h6⟩ := h
  exact ⟨es, clock, since, seen, c0, e1.trans h1, h2, h3, h4, e2.trans h5, h6⟩
theorem rg_iter {R : Value → Option (DataW Unit × List MemPlace)} {w : World} {b r n : Nat} {D : DataW Unit} {left : Lit → Bool} {cnt : Nat} (h : w.ranges Tryz.prog 3 R b r n D left cnt) : NoCells w r ∧ (∀ es ck, w.heap[r]? ≠ some (.map es ck)) ∧ r < w.heap.size := by
  obtain ⟨es, clock, since, seen, c0, h1, h2, h3, h4, h5, h6⟩ := h
  refine ⟨fun c t f e => ?_, fun es ck e => ?_, (Array.getElem?_eq_some_iff.1 h5).1⟩ <;> rw [h5] at e <;> cases e
/-- what is in use, as it is gathered -/
def tabsOf (T : List Ref) : List Int := (T.filter fun r => decide (0 < r.1)).map (·.1)
theorem tabsOf_succ (T : List Ref) (k : Nat) (h : k < T.length) : tabsOf (T.take (k + 1)) = tabsOf (T.take k) ++ (if 0 < T[k].1 then [T[k].1] else []) := by
  unfold tabsOf
  rw [List.take_succ_eq_append_getElem h, List.filter_append, List.map_append]
  by_cases h0 : 0 < T[k].1 <;> simp [h0]
theorem tabsOf_le (T : List Ref) : (tabsOf T).length ≤ T.length := by
  unfold tabsOf
  rw [List.length_map]
  exact List.length_filter_le _ _
theorem own_lit {w : World} {vs : Array Value} (t : TypeId) (base : Nat) (hb : base ≤ w.heap.size) (n : Nat) (hn : vs.size = n) (h9 : n ≤ maxLen) : (w.alloc (.cells vs t)).ownsRow base t 1 (.slice (some ⟨w.heap.size, 0, none⟩) n n) n vs.toList := by
  refine ⟨by simp [hn], .inr ⟨w.heap.size, n, vs, rfl, hb, heap_alloc_new _ _, Nat.le_refl _, h9, by simp [hn], ?_⟩⟩
  rw [List.take_of_length_le (by simp [hn])]
/-- what writes where no cells are leaves a row -/
theorem own_gone {w w' : World} {base r : Nat} {e : TypeId} {size : Nat} {v : Value} {n : Nat} {xs : List Value} (h : w.ownsRow base e size v n xs) (hg : w.grownBy w' (some r)) (hr : NoCells w r) : w'.ownsRow base e size v n xs := by
  refine h.kept hg ?_
  rcases h.2 with ⟨rfl, _⟩ | ⟨g, c, cur, rfl, hb, hc, q⟩
  · exact .inl rfl
  · refine .inr fun e => ?_
    have : g = r := by simpa [Value.ownBlock] using e
    subst this
    exact hr _ _ _ hc
/-- where a row is no iterator lies -/
theorem own_ne {w : World} {base r : Nat} {e : TypeId} {size : Nat} {v : Value} {n : Nat} {xs : List Value} (h : w.ownsRow base e size v n xs) (hr : NoCells w r) : (some r) ≠ v.ownBlock := by
  rcases h.2 with ⟨rfl, _⟩ | ⟨g, c, cur, rfl, hb, hc, q⟩
  · simp [Value.ownBlock]
  · intro e
    have : r = g := by simpa [Value.ownBlock] using e
    subst this
    exact hr _ _ _ hc
theorem alloc_other2 (w : World) (o o' : Obj) {b : Nat} (h : b < w.heap.size) : ((w.alloc o).alloc o').heap[b]? = w.heap[b]? := by
  rw [((Below.refl _ (w.alloc o)).alloc (Nat.le_refl _) o').block b (by simp; omega), ((Below.refl _ w).alloc (Nat.le_refl _) o).block b h]
/-- what a store has in use -/
def usedZ (T : List Ref) (F : Int → Option Ref) (zs : List Int) : Prop := ∀ x, x ∈ zs ↔ (x = 0 ∨ x = 1) ∨ x ∈ tabsOf T ∨ ∃ i r, F i = some r ∧ r.1 = x
set_option maxHeartbeats 800000 in
theorem used_w (lo n : Nat) (m : Mp) (D : Dv) (I : Si) (S : St) (w : World) (k : SAt w lo n m D I S) (hd : ∀ i, (S.at_ i).isSome = true → 0 ≤ i ∧ i < 256) :
    Calls Tryz.prog 42 #[ptr I.s] w fun e w' => (∃ g c zs, e = .returned (.slice (some ⟨g, 0, none⟩) zs.length c) ∧ w'.ownsRow w.heap.size 3 1 (.slice (some ⟨g, 0, none⟩) zs.length c) zs.length (ints zs) ∧ zs.Pairwise (· < ·) ∧ usedZ S.tabs S.at_ zs ∧ zs.length ≤ 1000) ∧ Below w.heap.size w w' := by
  obtain ⟨c0, c1, c2, c3, c4, c5, c6, c7, fz⟩ := k.c
  obtain ⟨ka, ha⟩ := k.at_
  have hcnt := ha.cnt hd
  have hc256 : cnt S.at_ ≤ 256 := by
    unfold cnt
    have := List.countP_le_length (p := fun (p : Nat) => (S.at_ (p : Int)).isSome) (l := List.range 256)
    simpa using this
  have HK := hid k
  have hT7 : S.tabs.length = 7 := k.tabs.len
  have hsl := k.slt
  have HTS := hid (tabsOf_succ S.tabs)
  have HTL := hid (fun k : Nat => tabsOf_le (S.tabs.take k))
  have h0 : tabsOf (S.tabs.take 0) = [] := rfl
  have hall : tabsOf (S.tabs.take 7) = tabsOf S.tabs := by rw [List.take_of_length_le (by omega)]
  have HALL := hid hall
  clear k hall
  obtain ⟨tk, htk⟩ : ∃ f : Nat → List Int, f = fun k => tabsOf (S.tabs.take k) := ⟨_, rfl⟩
  have htk' : ∀ k, tabsOf (S.tabs.take k) = tk k := fun k => by rw [htk]
  simp only [htk'] at h0 HTS HTL HALL
  have HTS' := hid (show ∀ k (h : k < S.tabs.length), tk (k + 1) = tk k ++ (if 0 < S.tabs[k].1 then [S.tabs[k].1] else []) from fun k h => by rw [← htk', ← htk']; exact tabsOf_succ S.tabs k h)
  have HTL' := hid (show ∀ k, (tk k).length ≤ 7 from fun k => by rw [← htk']; have := tabsOf_le (S.tabs.take k); rw [List.length_take] at this; omega)
  clear HTS HTL htk htk'
  have HC4 := hid c4
  clear c0 c1 c2 c3 c7 fz
  go_enter Tryz.func42, Tryz.ntmps42
  have b1 := (Below.refl w.heap.size w).alloc (Nat.le_refl _) (.cells #[.int .i64 0, .int .i64 1] 3)
  have o1 := own_lit (w := w) (vs := #[.int .i64 0, .int .i64 1]) 3 w.heap.size (Nat.le_refl _) 2 rfl (by decide)
  have o1' : (w.alloc (.cells #[.int .i64 0, .int .i64 1] 3)).ownsRow w.heap.size 3 1 (.slice (some ⟨w.heap.size, 0, none⟩) 2 2) (tk 0 ++ [0, 1]).length (ints ([0, 1] ++ tk 0)) := by rw [h0]; exact o1
  replace c4 := kept b1 c4
  go_wp2
  generalize w.alloc (.cells #[.int .i64 0, .int .i64 1] 3) = w1 at *
  clear o1
  go_loopw [3, 14] (fun v i wr => ∃ j : Nat, j ≤ 7 ∧ i = .int .i64 j ∧ wr.ownsRow w.heap.size 3 1 v (2 + (tk j).length) (ints ([0, 1] ++ tk j)) ∧ Below w.heap.size w wr) (fun _ i _ => 7 - (RowKit.intOf i).toNat)
  case atStart => exact ⟨0, by omega, rfl, by simpa [Nat.add_comm] using o1', b1⟩
  case round =>
    clear o1' c4 b1
    obtain ⟨j, hj, rfl, own, hb⟩ := hrel
    have HB := hid hb
    have k1 := HK.out.below hb
    have hsz := hb.size
    by_cases hlt : j < 7
    · have hjl : j < S.tabs.length := by omega
      obtain ⟨b', o', e, x0, x1⟩ := k1.tabs.at hjl
      cases e
      rw [Nat.zero_add] at x0 x1
      have hs := HTS'.out j hjl
      have hle := HTL'.out j
      obtain ⟨va, vc, rfl, hvr⟩ := ownsRow_slice own
      generalize S.tabs[j] = r at hs x0 x1
      have bx := (Below.refl w.heap.size wr).alloc hsz (.cells #[.int .i64 r.1, .int .u32 r.2] 111)
      by_cases h0 : 0 < r.1
      · have hs' : tk (j + 1) = tk j ++ [r.1] := by rw [hs, if_pos h0]
        have HS' := hid hs'
        have hd : decide ((0 : Int) < r.1) = true := decide_eq_true h0
        have own2 := own.alloc (.cells #[.int .i64 r.1, .int .u32 r.2] 111)
        have HB2 := hid (HB.out.trans bx)
        clear hvr hb hs hs' h0 own k1 bx
        go_wp2_with (at_builtin; go_must (refine wpList_push elInt rfl _ _ rfl w.heap.size _ _ _ rfl (own2.alloc _) _ (.int .i64 r.1) rfl (by simp) rfl (by unfold maxLen; omega) (by omega) (by simp; omega) ?_); intro v3 w3 o3 hb3 hg3)
        go_roundw
        case rel => exact ⟨j + 1, by omega, by go_num, by rw [HS'.out]; simpa [ints, Nat.add_assoc] using o3, HB2.out.trans (((Below.refl _ _).alloc (by simp; omega) _).trans hb3)⟩
        case measure => simp [RowKit.intOf]; omega
      · have hs' : tk (j + 1) = tk j := by rw [hs, if_neg h0]; simp
        have hd : decide ((0 : Int) < r.1) = false := decide_eq_false h0
        have own2 := own.alloc (.cells #[.int .i64 r.1, .int .u32 r.2] 111)
        have HB2 := hid (HB.out.trans bx)
        clear hvr hb hs h0 own k1 bx
        go_wp2
        go_roundw
        case rel => exact ⟨j + 1, by omega, by go_num, by rw [hs']; exact own2, HB2.out⟩
        case measure => simp [RowKit.intOf]; omega
    · obtain rfl : j = 7 := by omega
      generalize wr = w2 at *
      obtain ⟨X, hX⟩ : ∃ X, X = [0, 1] ++ tk 7 := ⟨_, rfl⟩
      have hXl : 2 + (tk 7).length = X.length := by rw [hX, List.length_append]; rfl
      have hle := HTL'.out 7
      rw [hXl, ← hX] at own
      have hX9 : X.length ≤ 9 := by omega
      have HX := hid hX
      have hX2 : 2 ≤ X.length := by omega
      obtain ⟨va0, vc0, rfl, hvr0⟩ := ownsRow_slice own
      clear hX hXl hle hlt hj hvr0
      obtain ⟨c0, c1, c2, c3, c4, c5', c6', c7, fz⟩ := k1.c
      obtain ⟨ka', ha'⟩ := k1.at_
      have hcnt' := ha'.cnt hd
      obtain ⟨E, hE, hnp, hEi⟩ := ha'
      have hal : I.a < w2.heap.size := by obtain ⟨es, ck, hb⟩ := k1.amap; exact (Array.getElem?_eq_some_iff.1 hb).1
      have hal0 : I.a < w.heap.size := by obtain ⟨es, ck, hb⟩ := HK.out.amap; exact (Array.getElem?_eq_some_iff.1 hb).1
      clear c0 c1 c2 c3 c4 c7 fz k1 c5 c6
      go_wp2_with (at_range; refine wpList_range_own _ rfl _ 90 rfl 3 111 law Tryz.underlying90 refR I.a n E rfl hE ?_; intro wq hrg0 hg0 hsq)
      go_frame
      have hown0 : wq.ownsRow w.heap.size 3 1 (.slice va0 X.length vc0) (X.length + ([] : List Int).length) (ints (X ++ [])) := by
        rw [List.append_nil]
        exact ownsRow_below own ((Below.refl _ _).grown hg0 (Nat.le_refl _) (fun j hj => by cases hj))
      have hq0 : Below w.heap.size w wq := HB.out.grown hg0 hsz (fun j hj => by cases hj)
      clear own
      go_loopw [3] (fun v wr => ∃ (left : Lit → Bool) (n1 : Nat) (ys : List Int), wr.ranges Tryz.prog 3 refR I.a w2.heap.size n E left n1 ∧ wr.ownsRow w.heap.size 3 1 v (X.length + ys.length) (ints (X ++ ys)) ∧ Below w.heap.size w wr ∧ ys.length + n1 ≤ cnt S.at_ ∧ w2.heap.size < wr.heap.size ∧
        (∀ x ∈ ys, ∃ i r, S.at_ i = some r ∧ r.1 = x) ∧ (∀ i r, S.at_ i = some r → left (.int .i64 i) = true ∨ r.1 ∈ ys)) (fun _ wr => wr.rangeLeft I.a w2.heap.size)
      case atStart =>
        refine ⟨_, _, [], hrg0, hown0, hq0, by simp; omega, by omega, fun x hx => absurd hx List.not_mem_nil, fun i r hi => .inl ?_⟩
        have := hEi i
        rw [hi] at this
        exact this.1
      case round =>
        clear hown0 hq0 hrg0 hg0 hsq
        obtain ⟨left, n1, ys, hrg, own, hbw, hcn, hsw, hy1, hy2⟩ := hrel
        have HBW := hid hbw
        have HY1 := hid hy1
        have HY2 := hid hy2
        have hsz2 := hbw.size
        obtain ⟨q, hq⟩ : ∃ q, q = X.length + ys.length := ⟨_, rfl⟩
        rw [← hq] at own
        have hql : q ≤ 1000000 := by omega
        have hpos : 0 < q := by omega
        have HQ := hid hq
        clear hq
        obtain ⟨va, vc, rfl, hvr⟩ := ownsRow_slice own
        clear hbw hy1 hy2
        go_wp2_with (at_next; refine wpList_next_ranges _ rfl _ rfl 3 law refR (Value.int .i64) mkR invK invR I.a w2.heap.size n _ _ _ rfl hrg ?_ ?_)
        · intro e0 hl0
          obtain ⟨g, rfl⟩ := own_some own hpos
          have hso := SortW.sort_w w.heap.size g q vc (X ++ ys) wr own hql hsz2
          have HL := hid hl0
          have HUL := hid (show (uniq (X ++ ys)).length ≤ 1000 by
            have h1 := Lib.compact_length_le ((X ++ ys).mergeSort fun x y => decide (x ≤ y))
            have h2 : ((X ++ ys).mergeSort fun x y => decide (x ≤ y)).length = (X ++ ys).length := List.length_mergeSort _
            have h3 : (X ++ ys).length ≤ 1000 := by rw [List.length_append]; omega
            unfold uniq
            omega)
          clear hrg hvr hpos hl0 e0
          go_wp2_with fail
          refine hso.mono ?_
          rintro e w4 ⟨rfl, own4, b4⟩
          have hco := SortW.compact_w w.heap.size g q vc _ w4 own4 hql
          have B4 := hid (HBW.out.trans b4)
          clear hso own own4 b4
          go_wp2_with fail
          refine hco.mono ?_
          rintro e w5 ⟨rfl, own5, b5⟩
          have B5 := hid (B4.out.trans b5)
          have HO := hid own5
          clear hco own5 b5
          go_wp2
          go_ret
          refine ⟨⟨g, vc, uniq (X ++ ys), rfl, HO.out, uniq_rise _, fun x => ?_, HUL.out⟩, B5.out⟩
          rw [uniq_mem, List.mem_append, HX.out, HALL.out, List.mem_append]
          constructor
          · rintro ((h | h) | h)
            · simp at h; exact .inl h
            · exact .inr (.inl h)
            · exact .inr (.inr (HY1.out x h))
          · rintro (h | h | ⟨i, r, h1, h2⟩)
            · exact .inl (.inl (by simpa using h))
            · exact .inl (.inr h)
            · rcases HY2.out i r h1 with h3 | h3
              · rw [HL.out] at h3; cases h3
              · rw [← h2]; exact .inr h3
        · intro x ca cb kl yd yp w4 n2 hkey hlx hR hat1 hrg1 hlt1 hg1 hs1 hen
          obtain ⟨x', ex, rfl, hwx⟩ := Maps.keyOf_int_inv Tryz.underlying3 hkey
          cases ex
          have hx := hEi x
          cases hF : S.at_ x with
          | none =>
            exfalso
            rw [hF] at hx
            have e1 := hat1 .nil
            have e2 := hat1 (.agg [])
            rw [atKey_of_not_has hx] at e1 e2
            rw [← e1] at e2
            cases e2
          | some r =>
            rw [hF] at hx
            have ey : yd = refd r.1 (r.2 : Int) := (hat1 .nil).symm.trans (hx.2 .nil)
            have hc1 : mkR (ca, cb) = .agg #[.int .i64 r.1, .int .u32 (r.2 : Int)] := refR_inv (ps := yp) (by rw [hR, ← ey])
            obtain ⟨ri1, ri2, ri3⟩ := rg_iter hrg
            obtain ⟨ri4, ri5, ri6⟩ := rg_iter hrg1
            have hB4 : Below w.heap.size w w4 := HBW.out.trans ((Below.refl _ _).grown hg1 hsz2 (fun j hj => by cases hj; omega))
            have own4 := own_gone own hg1 ri1
            have own5 := own4.alloc (.cells #[.int .i64 r.1, .int .u32 (r.2 : Int)] 111)
            have bx := (Below.refl w.heap.size w4).alloc hB4.size (.cells #[.int .i64 r.1, .int .u32 (r.2 : Int)] 111)
            have bx4 := (Below.refl w4.heap.size w4).alloc (Nat.le_refl _) (.cells #[.int .i64 r.1, .int .u32 (r.2 : Int)] 111)
            have HB5 := hid (hB4.trans bx)
            have hw4 := hB4.size
            have hF' := hid hF
            have HHAT := hid hx
            have HRG := hid hrg1
            have ML := hid (show w4.rangeLeft I.a w2.heap.size < wr.rangeLeft I.a w2.heap.size by rw [hrg1.left_eq, hrg.left_eq]; exact hlt1)
            rw [hc1] at hen ⊢
            have hsr : w2.heap.size < w4.heap.size := by omega
            clear hR hat1 hkey ey hx hF own4 own hvr hrg hc1 hg1 hs1 bx
            go_wp2_with (at_builtin; go_must (refine wpList_push elInt rfl _ _ rfl w.heap.size _ _ _ rfl (own5.alloc _) _ (.int .i64 r.1) rfl (by simp) rfl (by unfold maxLen; omega) (by omega) (by simp; omega) ?_); intro v3 w6 o3 hb3 hg3)
            have rr := rg_of (w' := w6) HRG.out (by
              rw [hb3.block I.a hal0]; exact alloc_other2 w4 _ _ (by omega)) (by
              rw [hg3.block w2.heap.size (by simp; omega) (own_ne own5 (fun c t f => by rw [bx4.block _ hsr]; exact ri4 c t f))]; exact alloc_other2 w4 _ _ hsr)
            go_roundw
            case rel =>
              have hya := hb3.size
              have hyb := hg3.size
              refine ⟨_, n2, rr, ys ++ [r.1], ?_, HB5.out.trans (((Below.refl _ _).alloc (by simp; omega) _).trans hb3), by simp; omega, by simp at hyb; omega, ?_, ?_⟩
              · have e1 : X.length + (ys ++ [r.1]).length = q + 1 := by rw [HQ.out, List.length_append]; rfl
                rw [e1, ← List.append_assoc]
                simpa [ints] using o3
              · intro y hy
                rcases List.mem_append.1 hy with hy | hy
                · obtain ⟨i, r', e1, rfl⟩ := HY1.out y hy
                  exact ⟨i, r'.2, e1⟩
                · rw [List.mem_singleton.1 hy]
                  exact ⟨x, r.2, hF'.out⟩
              · intro i ra rb hi
                by_cases hix : i = x
                · subst hix
                  rw [hF'.out] at hi
                  have := Option.some.inj hi
                  exact .inr (by simp [this])
                · rcases HY2.out i (ra, rb) hi with h3 | h3
                  · refine .inl ?_
                    rw [h3, same_int, decide_eq_false hix]
                    rfl
                  · exact .inr (by simp [h3])
            case measure => rw [rr.left_eq]; have := ML.out; rw [HRG.out.left_eq] at this; exact this
end Go.Proofs.YtbjfgdahfpfgdaaGreatDoor.PgW

namespace Go.Proofs.YtbjfgdahfpfgdaaGreatDoor.MapsW
open Go Go.RowKit Go.Maps Go.Sort Go.Shelf Go.Proofs Go.Proofs.YtbjfgdahfpfgdaaGreatDoor.Mem
set_option linter.unusedVariables false
set_option maxRecDepth 100000

theorem keys_w (mb : Option Nat) (w : World) : Calls Tryz.prog 63 #[.map mb] w fun e w' => e = .returned (.func (.func 103) #[] #[.pointer (some ⟨w.heap.size, 0, none⟩)]) ∧ w' = w.alloc (.cells #[.map mb] 91) :=
  (callsIn_wide (n := 5)).1 (AnyZI.keys_in Tryz.keysA Fence.wide 5 trivial rfl mb w)
theorem sorts_in (m : Nat) : AnyZI.SortsIn Tryz.prog Tryz.sortedA_ren Fence.wide m :=
  ⟨fun blk off cap ss W hH hblk hsz => callsIn_wide.2 (AnyM.slices_Sort_int Tryz.sortA blk off cap ss W hH hblk hsz),
   fun p cap W => callsIn_wide.2 (AnyM.slices_Sort_int_none Tryz.sortA p cap W)⟩
theorem sorted_w {H : Type} (b nn Bm : Nat) (D0 : DataW H) (R : Value → Option (DataW H × List MemPlace)) (w : World) (hBm : Bm < w.heap.size) (hm : w.cell? ⟨Bm, 0, none⟩ = some (.map (some b))) (hown : w.ownsMap Tryz.prog 3 R b nn D0) (hmax : Maps.size D0 ≤ 1000000) :
    Calls Tryz.prog 62 #[.func (.func 103) #[] #[.pointer (some ⟨Bm, 0, none⟩)]] w fun e w' => ∃ (v : Value) (ss : List Int), e = .returned v ∧ ss.Perm (intKeys D0) ∧
      w'.ownsRow w.heap.size 3 1 v ss.length ((ss.mergeSort (fun x y => decide (x ≤ y))).map encZ) ∧ (v = .slice none 0 0 ↔ ss = []) ∧ Below w.heap.size w w' := by
  have hseq : SeqGives Fence.wide 2 Tryz.prog 103 #[.pointer (some ⟨Bm, 0, none⟩)] encZ (fun ss => ss.Perm (intKeys D0)) (Maps.size D0) w :=
    AnyZI.keys_gives (ρ := Tryz.keysA_ren) { Tryz.keysA with } Fence.wide _ trivial rfl (by omega) Bm b nn D0 _ hBm hm hown
  have cS := AnyZI.sorted_in Tryz.sortedA Fence.wide 5 trivial trivial trivial trivial rfl (by omega) (sorts_in _) (enters_of Tryz.func78 (by kernel_rfl) rfl) 103 #[.pointer (some ⟨Bm, 0, none⟩)] trivial (enters_of Tryz.func103 (by kernel_rfl) rfl) _ _ (by unfold maxLen; omega) (by omega) _ hseq
  exact callsIn_wide.1 cS
/-- what a map of rows has keys at: rising -/
structure Keys (F : Int → Option (List Nat)) (ks : List Int) : Prop where
  rise : ks.Pairwise (· < ·)
  mem : ∀ i, i ∈ ks ↔ (F i).isSome = true
  fit : ∀ i ∈ ks, Fits i
theorem intKeys_is {H : Type} {w : World} {b n : Nat} {D : DataW H} {R : Value → Option (DataW H × List MemPlace)} (h : w.ownsMap Tryz.prog 3 R b n D) : (intKeys D).Nodup ∧ ∀ x, x ∈ intKeys D ↔ Maps.has D (.int .i64 x) = true := by
  obtain ⟨es, rfl, hpw, _⟩ := h.entries law
  obtain ⟨es', hD', hko⟩ := h.keysOf
  obtain rfl : es = es' := by simpa using hD'
  have hk : ∀ p ∈ es, ∃ x, p.1 = .int .i64 x := fun p hp => by
    obtain ⟨v, hv⟩ := hko p hp
    obtain ⟨x, _, hx, _⟩ := Maps.keyOf_i64 Tryz.underlying3 hv
    exact ⟨x, hx⟩
  constructor
  · show (es.map fun p => Go.intOf p.1).Nodup
    refine List.pairwise_map.2 (hpw.imp_of_mem fun {p q} hp' hq' hne e => hne ?_)
    obtain ⟨a, ha⟩ := hk p hp'
    obtain ⟨b, hb⟩ := hk q hq'
    rw [ha, hb] at e ⊢
    exact congrArg _ e
  · intro x
    rw [has_eq, List.any_eq_true]
    show x ∈ es.map (fun p => Go.intOf p.1) ↔ _
    rw [List.mem_map]
    constructor
    · rintro ⟨p, hp', rfl⟩
      obtain ⟨a, ha⟩ := hk p hp'
      exact ⟨p, hp', by rw [ha]; simp [Lit.sameKey, Go.intOf]⟩
    · rintro ⟨p, hp', hs⟩
      obtain ⟨a, ha⟩ := hk p hp'
      rw [ha] at hs
      exact ⟨p, hp', by rw [ha]; simpa [Lit.sameKey, Go.intOf] using hs⟩
/-- slices.Sorted of a map's keys -/
theorem keys_sorted (b n Bm base np : Nat) (F : Int → Option (List Nat)) (w : World) (hBm : Bm < w.heap.size) (hm : w.cell? ⟨Bm, 0, none⟩ = some (.map (some b))) (h : RowMap w base b n F np) (hnp : np ≤ 1000000) :
    Calls Tryz.prog 62 #[.func (.func 103) #[] #[.pointer (some ⟨Bm, 0, none⟩)]] w fun e w' => ∃ (v : Value) (ks : List Int), e = .returned v ∧ Keys F ks ∧ ks.length = np ∧
      w'.ownsRow w.heap.size 3 1 v ks.length (ks.map fun z => .int .i64 z) ∧ Below w.heap.size w w' := by
  obtain ⟨D, h1, h2, h3⟩ := h
  obtain ⟨k1, k2⟩ := intKeys_is h1
  refine (sorted_w b n Bm D rowR w hBm hm h1 (by omega)).mono ?_
  rintro e w' ⟨v, ss, rfl, hp, ho, _, hb⟩
  have hle : ∀ a b c : Int, decide (a ≤ b) = true → decide (b ≤ c) = true → decide (a ≤ c) = true := fun a b c x y => by
    simp only [decide_eq_true_eq] at *; omega
  have hto : ∀ a b : Int, (decide (a ≤ b) || decide (b ≤ a)) = true := fun a b => by
    simp only [Bool.or_eq_true, decide_eq_true_eq]; omega
  have hs := List.pairwise_mergeSort hle hto ss
  have hpm := List.mergeSort_perm ss (fun x y => decide (x ≤ y))
  have hnd : (ss.mergeSort fun x y => decide (x ≤ y)).Nodup := (hpm.trans hp).nodup_iff.2 k1
  refine ⟨v, ss.mergeSort (fun x y => decide (x ≤ y)), rfl, ⟨?_, fun i => ?_, fun i hi => int_of (intKeys_wf h1 Tryz.underlying3 i ((hpm.trans hp).mem_iff.1 hi))⟩, ?_, ?_, hb⟩
  · refine (hs.and hnd).imp fun {a b} q => ?_
    have := q.1
    simp only [decide_eq_true_eq] at this
    have := q.2
    omega
  · rw [(hpm.trans hp).mem_iff, k2]
    have := h3 i
    cases hF : F i with
    | none => rw [hF] at this; rw [this]; rfl
    | some l => rw [hF] at this; rw [this.1]; rfl
  · rw [hpm.length_eq, hp.length_eq, ← h2]
    obtain ⟨es, hD, _⟩ := h1.tidy law
    rw [hD]; simp [intKeys, Maps.size]
  · rw [hpm.length_eq]
    exact ho
end Go.Proofs.YtbjfgdahfpfgdaaGreatDoor.MapsW

namespace Go.Proofs.YtbjfgdahfpfgdaaGreatDoor.MapsW
open Go Go.RowKit Go.Maps Go.Proofs.YtbjfgdahfpfgdaaGreatDoor.Mem
set_option linter.unusedVariables false
set_option maxRecDepth 100000

def one? (x : Bool) : Int := if x then 1 else 0
/-- block b of w is a map of ints: 1 at each of its keys, k of them -/
def NumMap (w : World) (b n : Nat) (F : Int → Bool) (k : Nat) : Prop :=
  ∃ D : DataW Unit, w.ownsMap Tryz.prog 3 (plainElem Tryz.prog 3) b n D ∧ Maps.size D = k ∧ ∀ i, D.atKey (.int .i64 i) (.lit (.int .i64 0)) = .lit (.int .i64 (one? (F i))) ∧ Maps.has D (.int .i64 i) = F i
theorem zeroInt (w : World) : (zeroValue 3).run Tryz.prog w = .ok (.int .i64 0) w := by kernel_rfl
theorem NumMap.mono {w : World} {b n n' k : Nat} {F : Int → Bool} (h : NumMap w b n F k) (hn : n ≤ n') : NumMap w b n' F k := by
  obtain ⟨D, h1, h2⟩ := h
  exact ⟨D, h1.mono hn, h2⟩
theorem NumMap.block {w : World} {b n k : Nat} {F : Int → Bool} (h : NumMap w b n F k) : ∃ es ck, w.heap[b]? = some (.map es ck) := by
  obtain ⟨D, ⟨es, ck, h1, _⟩, _⟩ := h
  exact ⟨es, ck, h1⟩
theorem NumMap.still {w w' : World} {b n k : Nat} {F : Int → Bool} (h : NumMap w b n F k) (e : w'.heap[b]? = w.heap[b]?) : NumMap w' b n F k := by
  obtain ⟨D, h1, h2⟩ := h
  exact ⟨D, ownsMap_of h1 e, h2⟩
theorem NumMap.made (w : World) : NumMap (w.alloc (.map #[] 0)) w.heap.size 0 (fun _ => false) 0 :=
  ⟨.map [], World.ownsMap_made _ _ _ _, rfl, fun i => ⟨rfl, rfl⟩⟩
theorem NumMap.look {w : World} {b n k : Nat} {F : Int → Bool} (h : NumMap w b n F k) {i : Int} (hi : Fits i) :
    (Instr.lookup 145 (.map (some b)) (.int .i64 i) false).run Tryz.prog w = .ok (.int .i64 (one? (F i))) w := by
  obtain ⟨D, h1, _, h2⟩ := h
  obtain ⟨v, ps, hr, hv⟩ := h1.lookup law Tryz.underlying145 (zeroInt w) (zd := .lit (.int .i64 0)) (zp := []) (plainElem_int Tryz.underlying3 (by decide)) (key hi)
  rw [(h2 i).1] at hv
  obtain ⟨a, rfl, e, _⟩ := plainElem_int_inv Tryz.underlying3 hv
  cases e
  exact hr
theorem wpList_putNum (w : World) {ops : Array Oper} {rest : List Oper} {o : Oper} {a : Act} {Q : Exit → Act → World → Prop} (hg : o.guard = none) (m x v : Operand) (hop : o.op = Op.mapUpdate 145 m x v)
    {b n k : Nat} {F : Int → Bool} (h : NumMap w b n F k) (hn : n < 1000000) {i : Int} (hi : Fits i)
    (hm : a.eval m = .map (some b)) (hx : a.eval x = .int .i64 i) (hv : a.eval v = .int .i64 1)
    (hK : ∀ w', NumMap w' b (n + 1) (upd F i true) (if F i then k else k + 1) → w.grownBy w' (some b) → wpList Tryz.prog ops Q rest (a.put o.dst undef) w') : wpList Tryz.prog ops Q (o :: rest) a w := by
  obtain ⟨D, h1, h3, h2⟩ := h
  refine wpList_mapUpdate_own w hg m x v _ hop 3 3 law Tryz.underlying145 _ b n D hm h1 (by unfold maxLen; omega) _ _ _ hx hv (key hi) _ [] (plainElem_int Tryz.underlying3 (by decide)) fun w' ho hgw => ?_
  refine hK w' ⟨_, ho, ?_, fun j => ?_⟩ hgw
  · rw [size_put (h1.tidy law), (h2 i).2, h3]
  · by_cases hj : j = i
    · subst hj
      rw [upd_same, atKey_put_same (h1.tidy law).isMap (islit j)]
      exact ⟨rfl, has_put_same (h1.tidy law).isMap (islit j) _⟩
    · rw [upd_other _ _ hj, atKey_put_other (litne hj), (h2 j).1]
      exact ⟨rfl, (has_put_other (litne hj) _).trans (h2 j).2⟩
theorem NumMap.len {w : World} {b n k : Nat} {F : Int → Bool} (h : NumMap w b n F k) : ∃ D : DataW Unit, w.ownsMap Tryz.prog 3 (plainElem Tryz.prog 3) b n D ∧ Maps.size D = k := by
  obtain ⟨D, h1, h2, _⟩ := h
  exact ⟨D, h1, h2⟩
end Go.Proofs.YtbjfgdahfpfgdaaGreatDoor.MapsW

namespace Go.Proofs.YtbjfgdahfpfgdaaGreatDoor.MapsW
open Go Go.RowKit Go.Maps Go.Sort Go.Shelf Go.Proofs Go.Proofs.YtbjfgdahfpfgdaaGreatDoor.Mem
set_option linter.unusedVariables false
set_option maxRecDepth 100000

theorem nkeys_w (mb : Option Nat) (w : World) : Calls Tryz.prog 84 #[.map mb] w fun e w' => e = .returned (.func (.func 117) #[] #[.pointer (some ⟨w.heap.size, 0, none⟩)]) ∧ w' = w.alloc (.cells #[.map mb] 145) :=
  (callsIn_wide (n := 5)).1 (AnyZI.keys_in Tryz.keysN Fence.wide 5 trivial rfl mb w)
theorem nsorted_w {H : Type} (b nn Bm : Nat) (D0 : DataW H) (R : Value → Option (DataW H × List MemPlace)) (w : World) (hBm : Bm < w.heap.size) (hm : w.cell? ⟨Bm, 0, none⟩ = some (.map (some b))) (hown : w.ownsMap Tryz.prog 3 R b nn D0) (hmax : Maps.size D0 ≤ 1000000) :
    Calls Tryz.prog 62 #[.func (.func 117) #[] #[.pointer (some ⟨Bm, 0, none⟩)]] w fun e w' => ∃ (v : Value) (ss : List Int), e = .returned v ∧ ss.Perm (intKeys D0) ∧
      w'.ownsRow w.heap.size 3 1 v ss.length ((ss.mergeSort (fun x y => decide (x ≤ y))).map encZ) ∧ (v = .slice none 0 0 ↔ ss = []) ∧ Below w.heap.size w w' := by
  have hseq : SeqGives Fence.wide 2 Tryz.prog 117 #[.pointer (some ⟨Bm, 0, none⟩)] encZ (fun ss => ss.Perm (intKeys D0)) (Maps.size D0) w :=
    AnyZI.keys_gives (ρ := Tryz.keysN_ren) { Tryz.keysN with } Fence.wide _ trivial rfl (by omega) Bm b nn D0 _ hBm hm hown
  have cS := AnyZI.sorted_in Tryz.sortedA Fence.wide 5 trivial trivial trivial trivial rfl (by omega) (sorts_in _) (enters_of Tryz.func78 (by kernel_rfl) rfl) 117 #[.pointer (some ⟨Bm, 0, none⟩)] trivial (enters_of Tryz.func117 (by kernel_rfl) rfl) _ _ (by unfold maxLen; omega) (by omega) _ hseq
  exact callsIn_wide.1 cS
/-- what a map of ints has keys at: rising -/
structure NKeys (F : Int → Bool) (ks : List Int) : Prop where
  rise : ks.Pairwise (· < ·)
  mem : ∀ i, i ∈ ks ↔ F i = true
  fit : ∀ i ∈ ks, Fits i
/-- slices.Sorted of a map's keys -/
theorem nkeys_sorted (b n Bm np : Nat) (F : Int → Bool) (w : World) (hBm : Bm < w.heap.size) (hm : w.cell? ⟨Bm, 0, none⟩ = some (.map (some b))) (h : NumMap w b n F np) (hnp : np ≤ 1000000) :
    Calls Tryz.prog 62 #[.func (.func 117) #[] #[.pointer (some ⟨Bm, 0, none⟩)]] w fun e w' => ∃ (v : Value) (ks : List Int), e = .returned v ∧ NKeys F ks ∧ ks.length = np ∧
      w'.ownsRow w.heap.size 3 1 v ks.length (ks.map fun z => .int .i64 z) ∧ Below w.heap.size w w' := by
  obtain ⟨D, h1, h2, h3⟩ := h
  obtain ⟨k1, k2⟩ := intKeys_is h1
  refine (nsorted_w b n Bm D _ w hBm hm h1 (by omega)).mono ?_
  rintro e w' ⟨v, ss, rfl, hp, ho, _, hb⟩
  have hle : ∀ a b c : Int, decide (a ≤ b) = true → decide (b ≤ c) = true → decide (a ≤ c) = true := fun a b c x y => by
    simp only [decide_eq_true_eq] at *; omega
  have hto : ∀ a b : Int, (decide (a ≤ b) || decide (b ≤ a)) = true := fun a b => by
    simp only [Bool.or_eq_true, decide_eq_true_eq]; omega
  have hs := List.pairwise_mergeSort hle hto ss
  have hpm := List.mergeSort_perm ss (fun x y => decide (x ≤ y))
  have hnd : (ss.mergeSort fun x y => decide (x ≤ y)).Nodup := (hpm.trans hp).nodup_iff.2 k1
  refine ⟨v, ss.mergeSort (fun x y => decide (x ≤ y)), rfl, ⟨?_, fun i => ?_, fun i hi => int_of (intKeys_wf h1 Tryz.underlying3 i ((hpm.trans hp).mem_iff.1 hi))⟩, ?_, ?_, hb⟩
  · refine (hs.and hnd).imp fun {a b} q => ?_
    have := q.1
    simp only [decide_eq_true_eq] at this
    have := q.2
    omega
  · rw [(hpm.trans hp).mem_iff, k2, (h3 i).2]
  · rw [hpm.length_eq, hp.length_eq, ← h2]
    obtain ⟨es, hD, _⟩ := h1.tidy law
    rw [hD]; simp [intKeys, Maps.size]
  · rw [hpm.length_eq]
    exact ho
end Go.Proofs.YtbjfgdahfpfgdaaGreatDoor.MapsW

namespace Go.Proofs.YtbjfgdahfpfgdaaGreatDoor.PgW
open Go Go.RowKit Go.Maps Go.Sort Go.Shelf Go.Proofs Go.Proofs.YtbjfgdahfpfgdaaGreatDoor.Mem Go.Proofs.YtbjfgdahfpfgdaaGreatDoor.MapsW Go.Proofs.YtbjfgdahfpfgdaaGreatDoor.PgP Go.Proofs.YtbjfgdahfpfgdaaGreatDoor.Ints Go.Proofs.YtbjfgdahfpfgdaaGreatDoor.SortW Go.Proofs.YtbjfgdahfpfgdaaGreatDoor.RefsW
set_option linter.unusedVariables false
set_option maxRecDepth 100000

theorem cast_rise {l : List Nat} (h : l.Pairwise (· < ·)) : (l.map fun (p : Nat) => (p : Int)).Pairwise (· < ·) := List.pairwise_map.2 (h.imp fun h => by omega)
/-- slices.Sorted of the keys of what was changed -/
theorem now_sorted (b n Bm base k : Nat) (N : Int → Option (List Nat)) (w : World) (hBm : Bm < w.heap.size) (hm : w.cell? ⟨Bm, 0, none⟩ = some (.map (some b))) (h : NowMap w base b n N k) (hd : ∀ i, (N i).isSome = true → 0 ≤ i ∧ i < 256) :
    Calls Tryz.prog 62 #[.func (.func 103) #[] #[.pointer (some ⟨Bm, 0, none⟩)]] w fun e w' => ∃ (v : Value), e = .returned v ∧
      w'.ownsRow w.heap.size 3 1 v (keys N).length (nums .i64 (keys N)) ∧ Below w.heap.size w w' := by
  have hk := h.cnt hd
  obtain ⟨D, h1, h2, h3⟩ := h.is
  obtain ⟨k1, k0, k2⟩ := ikeys_is h1
  have hc : cnt N ≤ 256 := by
    unfold cnt
    have := List.countP_le_length (p := fun (p : Nat) => (N (p : Int)).isSome) (l := List.range 256)
    simpa using this
  refine (sorted_w b n Bm D rowR w hBm hm h1 (by omega)).mono ?_
  rintro e w' ⟨v, ss, rfl, hp, ho, _, hb⟩
  have hpm := List.mergeSort_perm ss (fun x y => decide (x ≤ y))
  have hnd : (ss.mergeSort fun x y => decide (x ≤ y)).Nodup := (hpm.trans hp).nodup_iff.2 k1
  have e1 : (ss.mergeSort fun x y => decide (x ≤ y)) = (keys N).map fun (p : Nat) => (p : Int) := by
    refine rise_eq (((sorted_le ss).and hnd).imp fun q => by have := q.1; have := q.2; omega) (cast_rise (List.pairwise_lt_range.filter _)) fun x => ?_
    rw [(hpm.trans hp).mem_iff, k2, (h3 x).has, List.mem_map]
    constructor
    · intro hx
      obtain ⟨d1, d2⟩ := hd x hx
      exact ⟨x.toNat, mem_keys.2 ⟨by omega, by rw [show ((x.toNat : Nat) : Int) = x by omega]; exact hx⟩, by omega⟩
    · rintro ⟨p, hp, rfl⟩
      exact (mem_keys.1 hp).2
  rw [e1] at ho
  have e2 : ss.length = (keys N).length := by
    have := congrArg List.length e1
    rw [hpm.length_eq, List.length_map] at this
    exact this
  rw [e2] at ho
  refine ⟨v, rfl, ?_, hb⟩
  rw [List.map_map] at ho
  exact ho
/-- maps.Keys of the pages' places -/
theorem rkeys_w (mb : Option Nat) (w : World) : Calls Tryz.prog 87 #[.map mb] w fun e w' => e = .returned (.func (.func 120) #[] #[.pointer (some ⟨w.heap.size, 0, none⟩)]) ∧ w' = w.alloc (.cells #[.map mb] 90) :=
  (callsIn_wide (n := 5)).1 (AnyZI.keys_in Tryz.keysR Fence.wide 5 trivial rfl mb w)
/-- slices.Collect of them -/
theorem ref_collect (b n Bm k : Nat) (F : Int → Option (Int × Nat)) (w : World) (hBm : Bm < w.heap.size) (hm : w.cell? ⟨Bm, 0, none⟩ = some (.map (some b))) (h : RefMap w b n F k) (hd : ∀ i, (F i).isSome = true → 0 ≤ i ∧ i < 256) :
    Calls Tryz.prog 86 #[.func (.func 120) #[] #[.pointer (some ⟨Bm, 0, none⟩)]] w fun e w' => ∃ (v : Value) (ss : List Int), e = .returned v ∧ (∀ x, x ∈ ss ↔ (F x).isSome = true) ∧
      w'.ownsRow w.heap.size 3 1 v ss.length (ints ss) ∧ ss.length ≤ 256 ∧ Below w.heap.size w w' := by
  have hk := h.cnt hd
  obtain ⟨D, h1, h2, h3⟩ := h
  obtain ⟨k1, k0, k2⟩ := ikeys_is h1
  have hc : cnt F ≤ 256 := by
    unfold cnt
    have := List.countP_le_length (p := fun (p : Nat) => (F (p : Int)).isSome) (l := List.range 256)
    simpa using this
  have hseq : SeqGives Fence.wide 3 Tryz.prog 120 #[.pointer (some ⟨Bm, 0, none⟩)] encZ (fun ss => ss.Perm (intKeys D)) (Maps.size D) w :=
    AnyZI.keys_gives (ρ := Tryz.keysR_ren) { Tryz.keysR with } Fence.wide _ trivial rfl (by omega) Bm b n D _ hBm hm h1
  have cS := AnyZI.collect_in Tryz.collectA Fence.wide 5 trivial trivial rfl (by omega) 120 #[.pointer (some ⟨Bm, 0, none⟩)] trivial (enters_of Tryz.func120 (by kernel_rfl) rfl) _ _ (by unfold maxLen; omega) (by omega) _ hseq
  refine (callsIn_wide.1 cS).mono ?_
  rintro e w' ⟨v, ss, rfl, hp, ho, _, hb⟩
  exact ⟨v, ss, rfl, fun x => by rw [hp.mem_iff, k2, RefMap.has (w := w) (b := b) (n := n) (k := k) h3], ho, by rw [hp.length_eq, k0]; omega, hb⟩
/-- a copy of places -/
theorem cloneRefs_w (b off n c : Nat) (rs : List (Int × Nat)) (w : World) (h : Refs w (some ⟨b, off, none⟩) n c rs) (hn : n ≤ 1000000) :
    Calls Tryz.prog 80 #[.slice (some ⟨b, off, none⟩) n c] w fun e w' => ∃ g cap, e = .returned (.slice (some ⟨g, 0, none⟩) n cap) ∧ OwnRefs w' w.heap.size (.slice (some ⟨g, 0, none⟩) n cap) n rs ∧ Below w.heap.size w w' := by
  obtain ⟨i, hi, hz0, hz1, hz2⟩ := info_parts elRef.hi
  refine (AnyE.slices_Clone Tryz.cloneRs i _ 2 16 hi hz0 hz1 hz2 elRef.hz elRef.h0 (fun w => by kernel_rfl) b off n c (refCells rs) w h.1 (by unfold maxLen; omega) (by omega) (fun j u hj => Row.cell h hj) (refCells_one rs)).mono ?_
  rintro e w' ⟨v, rfl, ho, hne, hb⟩
  have ho' := ho
  rcases ho.2 with ⟨e0, _⟩ | ⟨g, cap, cur, rfl, _⟩
  · exact absurd e0 hne
  · exact ⟨g, cap, rfl, ho', hb⟩
/-- a copy of the map of the pages' places -/
theorem cloneMap_w (b n k : Nat) (F : Int → Option (Int × Nat)) (w : World) (h : RefMap w b n F k) :
    Calls Tryz.prog 81 #[.map (some b)] w fun e w' => e = .returned (.map (some w.heap.size)) ∧ RefMap w' w.heap.size n F k ∧ w'.heap.size = w.heap.size + 1 ∧ Below w.heap.size w w' := by
  obtain ⟨D, h1, h2, h3⟩ := h
  obtain ⟨es, ck, hb, hr⟩ := h1
  refine (AnyW.maps_Clone Tryz.cloneRm b es ck w hb).mono ?_
  rintro e w' ⟨rfl, rfl⟩
  exact ⟨rfl, ⟨D, ⟨es, ck, heap_alloc_new _ _, hr⟩, h2, h3⟩, by simp, (Below.refl _ w).alloc (Nat.le_refl _) _⟩
/-- is a number among those in use? -/
theorem search_w (b off n c : Nat) (zs : List Int) (x : Int) (w : World) (h : Is w (some ⟨b, off, none⟩) n c zs) (hn : n ≤ 1000000) (hs : zs.Pairwise (· < ·)) :
    Calls Tryz.prog 82 #[.slice (some ⟨b, off, none⟩) n c, .int .i64 x] w fun e w' => (∃ j : Int, e = .returned (.tuple #[.int .i64 j, .bool (decide (x ∈ zs))])) ∧ Below w.heap.size w w' := by
  have hl := h.len
  have ht : zs.take n = zs := List.take_of_length_le (by omega)
  refine (AnyG.slices_BinarySearch_int Tryz.searchA b off n c zs x w (by omega) (by omega) (fun j hj => ?_) (by rw [ht]; exact hs.imp fun h => by omega)).mono ?_
  · have := Row.cell h (j := j) (u := .int .i64 (zs.getD j 0)) (by simp [ints, hj, List.getD_eq_getElem?_getD])
    exact this
  · rintro e w' ⟨rfl, q, rfl⟩
    rw [ht]
    refine ⟨⟨((zs.countP (· < x) : Nat) : Int), ?_⟩, below_drewN (Below.refl _ _) _⟩
    rw [show zs.contains x = decide (x ∈ zs) by rw [Bool.eq_iff_iff]; simp]
end Go.Proofs.YtbjfgdahfpfgdaaGreatDoor.PgW

namespace Go.Proofs.YtbjfgdahfpfgdaaGreatDoor.PgW
open Go Go.RowKit Go.Maps Go.Proofs.YtbjfgdahfpfgdaaGreatDoor.Mem Go.Proofs.YtbjfgdahfpfgdaaGreatDoor.MapsW Go.Proofs.YtbjfgdahfpfgdaaGreatDoor.PgP Go.Proofs.YtbjfgdahfpfgdaaGreatDoor.RefsW
set_option linter.unusedVariables false
set_option maxRecDepth 100000

theorem refCells_set : ∀ (L : List (Int × Nat)) (i : Nat) (r : Int × Nat), refCells (L.set i r) = ((refCells L).set (i * 2) (.int .i64 r.1)).set (i * 2 + 1) (.int .u32 (r.2 : Int))
  | [], i, r => by simp [refCells]
  | x :: L, 0, r => rfl
  | x :: L, i + 1, r => by
    have ih := refCells_set L i r
    show Value.int .i64 x.1 :: Value.int .u32 (x.2 : Int) :: refCells (L.set i r) = _
    rw [ih, show (i + 1) * 2 = i * 2 + 1 + 1 by omega]
    rfl
/-- a place stored into a row of one's own -/
theorem own_ref {w : World} {base g n c : Nat} {L : List (Int × Nat)} (h : OwnRefs w base (.slice (some ⟨g, 0, none⟩) n c) n L) (i : Nat) (r : Int × Nat) :
    OwnRefs ((w.setCell ⟨g, i * 2, none⟩ (.int .i64 r.1)).setCell ⟨g, i * 2 + 1, none⟩ (.int .u32 (r.2 : Int))) base (.slice (some ⟨g, 0, none⟩) n c) n (L.set i r) := by
  have h1 := (World.ownsRow.stored h (i * 2) (.int .i64 r.1)).1
  have h2 := (World.ownsRow.stored h1 (i * 2 + 1) (.int .u32 (r.2 : Int))).1
  show World.ownsRow _ _ _ _ _ _ (refCells (L.set i r))
  rw [refCells_set]
  exact h2
theorem zero_w (r : Int × Nat) (w : World) : Calls Tryz.prog 122 #[refV r] w fun e w' => e = .returned (.bool (decide (r.1 = 0))) ∧ Below w.heap.size w w' := by
  have b1 := (Below.refl w.heap.size w).alloc (Nat.le_refl _) (.cells #[.int .i64 r.1, .int .u32 (r.2 : Int)] 111)
  by_cases h : r.1 = 0
  · have h1 : (r.1 == 0) = true := by simpa using h
    rw [decide_eq_true h]
    clear h
    go_enter Tryz.func122, Tryz.ntmps122
    go_wp2
    go_ret
    exact ⟨rfl, b1⟩
  · have h1 : (r.1 == 0) = false := by simpa using h
    rw [decide_eq_false h]
    clear h
    go_enter Tryz.func122, Tryz.ntmps122
    go_wp2
    go_ret
    exact ⟨rfl, b1⟩
abbrev zv : Value := .func (.func 122) #[] #[]
set_option maxHeartbeats 800000 in
theorem zindex_w (a : Option Addr) (n cap : Nat) (rs : List (Int × Nat)) (w : World) (hl : Refs w a n cap rs) :
    Calls Tryz.prog 150 #[.slice a n cap, zv] w fun e w' => (∃ r : Int, e = .returned (.int .i64 r) ∧ ((r = -1 ∧ ∀ x ∈ rs, x.1 ≠ 0) ∨ ∃ k : Nat, ∃ hk : k < rs.length, r = (k : Int) ∧ rs[k].1 = 0 ∧ ∀ x ∈ rs.take k, x.1 ≠ 0)) ∧ Below w.heap.size w w' := by
  have HL := hid hl.len
  obtain ⟨c1, c2⟩ := hl.bound
  go_enter Tryz.func150, Tryz.ntmps150
  go_wp2_with fail
  go_loopw [8] (fun i wr => ∃ k : Nat, k ≤ n ∧ i = .int .i64 k ∧ (∀ x ∈ rs.take k, x.1 ≠ 0) ∧ Below w.heap.size w wr) (fun i _ => n - (RowKit.intOf i).toNat)
  case atStart => exact ⟨0, by omega, rfl, by simp, Below.refl _ _⟩
  case round =>
    obtain ⟨k, hk, rfl, hT, hbel⟩ := hrel
    have HT := hid hT
    clear hT
    replace hl := hl.below hbel
    have hsz := hbel.size
    have HB := hid hbel
    clear hbel
    by_cases hlt : k < n
    · have hkl : k < rs.length := by rw [HL.out]; exact hlt
      obtain ⟨b0, o0, rfl, hc0, hc1⟩ := hl.at hkl
      have HKL := hid (List.take_succ_eq_append_getElem hkl)
      obtain ⟨y, hy⟩ : ∃ y, y = rs[k] := ⟨_, rfl⟩
      have HY := hid hy
      rw [← hy] at hc0 hc1
      clear hy
      by_cases hz : y.1 = 0
      · have hzw := zero_w y
        rw [decide_eq_true hz] at hzw
        have HZ := hid hz
        clear hz
        go_wp2_with fail
        refine (hzw _).mono ?_
        rintro e w2 ⟨rfl, hb2⟩
        have HBB := hid (HB.out.trans (hb2.mono hsz))
        clear hb2 hc0 hc1 hl hzw
        go_wp2_with fail
        go_ret
        exact ⟨⟨(k : Int), rfl, .inr ⟨k, by rw [HL.out]; exact hlt, rfl, by rw [← HY.out]; exact HZ.out, HT.out⟩⟩, HBB.out⟩
      · have hzw := zero_w y
        rw [decide_eq_false hz] at hzw
        have HZ := hid hz
        clear hz
        go_wp2_with fail
        refine (hzw _).mono ?_
        rintro e w2 ⟨rfl, hb2⟩
        have HBB := hid (HB.out.trans (hb2.mono hsz))
        clear hb2 hc0 hc1 hl hzw
        go_wp2_with fail
        go_roundw
        case rel =>
          refine ⟨k + 1, by omega, by go_num, ?_, HBB.out⟩
          rw [HKL.out]
          intro x hx
          rcases List.mem_append.1 hx with hx | hx
          · exact HT.out x hx
          · rw [List.mem_singleton.1 hx, ← HY.out]; exact HZ.out
        case measure => simp [RowKit.intOf]; omega
    · obtain rfl : k = n := by omega
      have HR := hid (show ∀ x ∈ rs, x.1 ≠ 0 from fun x hx => HT.out x (by rw [List.take_of_length_le (by rw [HL.out]; exact Nat.le_refl _)]; exact hx))
      clear hl
      go_wp2_with fail
      go_ret
      exact ⟨⟨-1, rfl, .inl ⟨rfl, HR.out⟩⟩, HB.out⟩
/-- 'clear' of places -/
theorem clear_refs (w : World) (b o n c : Nat) (hn : 0 < n) (hc : ∀ j, j < n * 2 → (w.cell? ⟨b, o + j, none⟩).isSome = true) (hf : ∀ j, j < n * 2 → w.frozen? ⟨b, o + j, none⟩ = false) :
    ∃ vs, ∀ ty, (Builtin.clear_ #[87] ty #[.slice (some ⟨b, o, none⟩) n c]).run Tryz.prog w = .ok (.tuple #[]) (w.setCells b o vs) := by
  have hz := zeroRef
  obtain ⟨vs, hvs⟩ : ∃ vs, vs = (Builtin.zeroCells #[.int .i64 0, .int .u32 0] n).toList := ⟨_, rfl⟩
  have hlen : vs.length = n * 2 := by rw [hvs]; simp [Builtin.zeroCells]
  have hone : ∀ v ∈ vs, v.oneCell' = true := by
    intro v hv
    rw [hvs] at hv
    simp [Builtin.zeroCells] at hv
    obtain ⟨j, _, hv⟩ := hv
    have : j % 2 = 0 ∨ j % 2 = 1 := by omega
    rcases this with h | h <;> simp [h] at hv <;> subst hv <;> rfl
  have hst := run_storeCells_cells (P := Tryz.prog) b o vs 0 w (by rw [hlen]; simpa using hc) (by rw [hlen]; simpa using hf) hone
  simp only [Nat.add_zero] at hst
  obtain ⟨m, rfl⟩ : ∃ m, n = m + 1 := ⟨n - 1, by omega⟩
  refine ⟨vs, fun ty => ?_⟩
  rw [hvs] at hst ⊢
  simp [Builtin.clear_, run_underlying Tryz.underlying87, hz, Value.cells, hst]
theorem tcnt_succ (T : List Ref) (j : Nat) (h : j < T.length) : tcnt (T.take (j + 1)) = tcnt (T.take j) + (if T[j].1 = 0 then 0 else 1) := by
  unfold tcnt
  rw [List.take_succ_eq_append_getElem h, List.countP_append]
  by_cases h0 : T[j].1 = 0 <;> simp [h0]
theorem tcnt_all {T : List Ref} (h : ∀ x ∈ T, x.1 ≠ 0) : tcnt T = T.length := by
  unfold tcnt
  rw [List.countP_eq_length]
  intro x hx
  simpa using h x hx
theorem own_frozen {w : World} {base : Nat} {e : TypeId} {size g n c : Nat} {xs : List Value} (h : w.ownsRow base e size (.slice (some ⟨g, 0, none⟩) n c) n xs) (j : Nat) : w.frozen? ⟨g, j, none⟩ = false := by
  rcases h.2 with ⟨e0, _⟩ | ⟨g', c', cur, hv, hb, hc, q⟩
  · cases e0
  · cases hv
    simp [World.frozen?, hc]
theorem own_refs {w : World} {base g n c : Nat} {L : List (Int × Nat)} (h : OwnRefs w base (.slice (some ⟨g, 0, none⟩) n c) n L) : Refs w (some ⟨g, 0, none⟩) n c L := (Row.owned h).2
set_option maxHeartbeats 1600000 in
theorem delz_w (base g n c : Nat) (rs : List (Int × Nat)) (w : World) (h : OwnRefs w base (.slice (some ⟨g, 0, none⟩) n c) n rs) (hn : n ≤ 1000) (hb : base ≤ w.heap.size) :
    Calls Tryz.prog 121 #[.slice (some ⟨g, 0, none⟩) n c, zv] w fun e w' => (∃ a c', e = .returned (.slice a (tcnt rs) c')) ∧ Below base w w' := by
  have hr := own_refs h
  have hlen := hr.len
  have hbd := hr.bound
  have hgb : base ≤ g := (h.lt g rfl).1
  have HL := hid hlen
  go_enter Tryz.func121, Tryz.ntmps121
  go_wp2_with fail
  refine (zindex_w (some ⟨g, 0, none⟩) n c rs w hr).mono ?_
  rintro e w1 ⟨⟨r, rfl, hcase⟩, b1⟩
  rcases hcase with ⟨rfl, hall⟩ | ⟨k, hk, rfl, hz, hpre⟩
  · have HC := hid (tcnt_all hall)
    clear hr h
    go_wp2_with fail
    go_ret
    exact ⟨⟨some ⟨g, 0, none⟩, c, by rw [HC.out, HL.out]; rfl⟩, b1.mono hb⟩
  · have hk' : k < n := by omega
    have h1 : OwnRefs w1 base (.slice (some ⟨g, 0, none⟩) n c) n rs := ownsRow_below h b1
    have hT : tcnt (rs.take (k + 1)) = k := by
      rw [tcnt_succ rs k hk, if_pos hz, tcnt_all hpre, List.length_take]
      omega
    have B1 : Below base w w1 := b1.mono hb
    have HT := hid hT
    have hkn : (((k : Nat) : Int) == -1) = false := by rw [beq_eq_false_iff_ne]; omega
    have HS := hid (tcnt_succ rs)
    clear hT hr h hz hpre b1
    go_wp2_with fail
    go_loopw [5, 6] (fun iv jv wr => ∃ (i j : Nat), iv = .int .i64 i ∧ jv = .int .i64 j ∧ i < j ∧ j ≤ n ∧ tcnt (rs.take j) = i ∧ ∃ (L : List (Int × Nat)), OwnRefs wr base (.slice (some ⟨g, 0, none⟩) n c) n L ∧ L.length = n ∧ (∀ q, j ≤ q → L[q]? = rs[q]?) ∧ Below base w wr) (fun _ jv _ => n - (RowKit.intOf jv).toNat)
    case atStart => exact ⟨k, k + 1, rfl, by go_num, by omega, by omega, HT.out, rs, h1, hlen, fun q _ => rfl, B1⟩
    case round =>
      clear h1 B1
      obtain ⟨i, j, rfl, rfl, hij, hjn, hti, L, own, hLl, hq, hbel⟩ := hrel
      have HTI := hid hti
      have HQ := hid hq
      have HB := hid hbel
      have hsz := hbel.size
      clear hti hq hbel
      by_cases hlt : j < n
      · have hjr : j < rs.length := by omega
        have hjL : j < L.length := by omega
        have hiL : i < L.length := by omega
        obtain ⟨bx, ox, e, x0, x1⟩ := (own_refs own).at hjL
        cases e
        rw [Nat.zero_add] at x0 x1
        have hy : L[j] = rs[j] := by
          have := HQ.out j (Nat.le_refl _)
          rw [List.getElem?_eq_getElem hjL, List.getElem?_eq_getElem hjr] at this
          exact Option.some.inj this
        rw [hy] at x0 x1
        have hs := HS.out j hjr
        obtain ⟨y, hye⟩ : ∃ y, y = rs[j] := ⟨_, rfl⟩
        rw [← hye] at x0 x1 hs
        have HS1 := hid hs
        have bx := (Below.refl base wr).alloc (by omega) (.cells #[.int .i64 y.1, .int .u32 (y.2 : Int)] 111)
        have own2 : OwnRefs (wr.alloc (.cells #[.int .i64 y.1, .int .u32 (y.2 : Int)] 111)) base (.slice (some ⟨g, 0, none⟩) n c) n L := World.ownsRow.alloc own _
        have HX := hid bx
        have z1 : (wr.alloc (.cells #[.int .i64 y.1, .int .u32 (y.2 : Int)] 111)).heap.size = wr.heap.size + 1 := by simp
        obtain ⟨r0, r1⟩ := new2 wr (.int .i64 y.1) (.int .u32 (y.2 : Int)) 111
        have HZ1 := hid z1
        clear hs hye hy own z1 bx
        by_cases hz : y.1 = 0
        · have hzw := zero_w y
          rw [decide_eq_true hz] at hzw
          rw [if_pos hz] at HS1
          clear hz
          go_wp2_with fail
          refine (hzw _).mono ?_
          rintro e w2 ⟨rfl, hb2⟩
          have own3 : OwnRefs w2 base (.slice (some ⟨g, 0, none⟩) n c) n L := ownsRow_below own2 hb2
          have HBB := hid (HB.out.trans (HX.out.trans (hb2.mono (by simp; omega))))
          clear hb2 own2 x0 x1 r0 r1 hzw
          go_wp2_with fail
          go_roundw
          case rel => exact ⟨i, j + 1, rfl, by go_num, by omega, by omega, by rw [HS1.out, HTI.out]; rfl, L, own3, hLl, fun q hq => HQ.out q (by omega), HBB.out⟩
          case measure => simp [RowKit.intOf]; omega
        · have hzw := zero_w y
          rw [decide_eq_false hz] at hzw
          rw [if_neg hz] at HS1
          clear hz
          go_wp2_with fail
          refine (hzw _).mono ?_
          rintro e w2 ⟨rfl, hb2⟩
          have own3 : OwnRefs w2 base (.slice (some ⟨g, 0, none⟩) n c) n L := ownsRow_below own2 hb2
          have q0 := kept hb2 r0
          have q1 := kept hb2 r1
          obtain ⟨bi, oi, e, y0, y1⟩ := (own_refs own3).at hiL
          cases e
          rw [Nat.zero_add] at y0 y1
          have f0 := own_frozen own3 (i * 2)
          have f1 := own_frozen own3 (i * 2 + 1)
          have HO := hid (own_ref own3 i y)
          have HBB := hid (((HB.out.trans (HX.out.trans (hb2.mono (by simp; omega)))).setCell (p := ⟨g, i * 2, none⟩) hgb (.int .i64 y.1)).setCell (p := ⟨g, i * 2 + 1, none⟩) hgb (.int .u32 (y.2 : Int)))
          clear hb2 own2 x0 x1 r0 r1 own3 hzw
          go_wp2_with fail
          go_roundw
          case rel => exact ⟨i + 1, j + 1, by go_num, by go_num, by omega, by omega, by rw [HS1.out, HTI.out], L.set i y, HO.out, by rw [List.length_set]; exact hLl, fun q hq => by rw [List.getElem?_set_ne (by omega)]; exact HQ.out q (by omega), HBB.out⟩
          case measure => simp [RowKit.intOf]; omega
      · obtain rfl : j = n := by omega
        have hti : tcnt rs = i := by rw [← HTI.out, List.take_of_length_le (by omega)]
        have hcells : ∀ q, q < j * 2 → (wr.cell? ⟨g, q, none⟩).isSome = true := by
          intro q hq
          obtain ⟨u, hu⟩ : ∃ u, (refCells L)[q]? = some u := ⟨(refCells L)[q]'(by rw [refCells_length]; omega), List.getElem?_eq_getElem _⟩
          have := Row.cell (own_refs own) hu
          rw [Nat.zero_add] at this
          rw [this]
          rfl
        obtain ⟨vs, hrun⟩ := clear_refs wr g (i * 2) (j - i) (c - i) (by omega) (fun q hq => hcells _ (by omega)) (fun q hq => own_frozen own _)
        have HE := hid (Lib.below_setCells g hgb vs (i * 2) HB.out)
        have HTE := hid hti
        have hjc : j ≤ c := hbd.1
        have hc9 := hbd.2
        clear hti hcells own HB HTI
        go_wp2
        go_ret
        exact ⟨⟨some ⟨g, 0, none⟩, c, by rw [HTE.out]; rfl⟩, HE.out⟩
theorem count_w (b n c : Nat) (rs : List (Int × Nat)) (w : World) (h : Refs w (some ⟨b, 0, none⟩) n c rs) (hn : n ≤ 1000) :
    Calls Tryz.prog 89 #[.slice (some ⟨b, 0, none⟩) n c] w fun e w' => e = .returned (.int .i64 (tcnt rs : Nat)) ∧ Below w.heap.size w w' := by
  obtain ⟨t, ht⟩ : ∃ t, t = tcnt rs := ⟨_, rfl⟩
  rw [← ht]
  go_enter Tryz.func89, Tryz.ntmps89
  go_wp2_with fail
  refine (cloneRefs_w b 0 n c rs w h (by omega)).mono ?_
  rintro e w1 ⟨g, cap, rfl, own, b1⟩
  go_wp2_with fail
  refine (delz_w w.heap.size g n cap rs w1 own hn b1.size).mono ?_
  rintro e w2 ⟨⟨a, c', rfl⟩, b2⟩
  have hB := b1.trans b2
  rw [← ht]
  clear own b1 b2 h ht
  go_wp2
  go_ret
  exact ⟨rfl, hB⟩
end Go.Proofs.YtbjfgdahfpfgdaaGreatDoor.PgW
