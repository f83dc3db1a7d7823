/- The walk of path.Parse: what begins with a slash. -/
import Derived.Test.YtagbnacffiagcaaDoorPathParse
namespace Go.Proofs.YtagbnacffiagcaaDoor.PathW
open Go Go.RowKit Go.Proofs.YtagbnacffiagcaaDoor.Mem Go.Proofs.YtagbnacffiagcaaDoor.SeeW
set_option linter.unusedVariables false
set_option maxRecDepth 100000

/-- a block of two cells, as one reads and writes it -/
theorem two {w : World} {b : Nat} {x y : Value} {t : TypeId} (h : w.heap[b]? = some (.cells #[x, y] t (0, 0))) :
    w.cell? ⟨b, 0, none⟩ = some x ∧ w.cell? ⟨b, 1, none⟩ = some y ∧ w.frozen? ⟨b, 0, none⟩ = false ∧ w.frozen? ⟨b, 1, none⟩ = false := by
  simp [World.cell?, World.frozen?, h]
theorem two_set {w : World} {b : Nat} {x y : Value} {t : TypeId} (h : w.heap[b]? = some (.cells #[x, y] t (0, 0))) (u : Value) :
    (w.setCell ⟨b, 0, none⟩ u).heap[b]? = some (.cells #[u, y] t (0, 0)) := by
  simp [World.setCell, Array.getElem?_modify, h]

theorem other_set {w : World} {b b' j : Nat} {u : Value} {o : Obj} (h : w.heap[b]? = some o) (hne : b ≠ b') : (w.setCell ⟨b', j, none⟩ u).heap[b]? = some o := by
  rw [heap_setCell_other w ⟨b', j, none⟩ b u hne]; exact h
theorem kept_set {w : World} {base : Nat} {e : TypeId} {size : Nat} {v : Value} {n : Nat} {xs : List Value} (h : w.ownsRow base e size v n xs) {b : Nat} (hne : b < base) (j : Nat) (u : Value) :
    (w.setCell ⟨b, j, none⟩ u).ownsRow base e size v n xs :=
  h.kept (row := some b) ⟨rfl, rfl, rfl, by simp, fun k _ hk => heap_setCell_other w ⟨b, j, none⟩ k u (fun e => hk (by simp [e]))⟩ (by
    cases hv : v.ownBlock with
    | none => exact .inl rfl
    | some g => right; have := (h.lt g hv).1; simp; omega)
theorem texts_at {w : World} {b : Nat} {P : List ByteArray} (h : w.heap[b]? = some (.cells (P.map Value.string).toArray 9 (0, 0))) {k : Nat} (hk : k < P.length) : w.cell? ⟨b, k, none⟩ = some (.string P[k]) := by
  simp [World.cell?, h, hk]

theorem kept_iff (x : ByteArray) : kept x = !(x.toList.isEmpty || x.toList == [46]) := by
  unfold kept Path.keep
  rw [← Lib.toList_data]
  cases x.toList <;> rfl
theorem alloc_old {w : World} {o o' : Obj} {k : Nat} (h : w.heap[k]? = some o') : (w.alloc o).heap[k]? = some o' := by
  rw [((Below.refl w.heap.size w).alloc (Nat.le_refl _) o).block k (Array.getElem?_eq_some_iff.1 h).1]; exact h
theorem alloc_at {w : World} {k : Nat} (h : w.heap.size = k) (o : Obj) : (w.alloc o).heap[k]? = some o := by
  subst h; exact heap_alloc_new _ _

set_option maxHeartbeats 3200000 in
theorem parse_rest (bs : List Addr) (s : ByteArray) (w : World) (h : Bp w bs) (h0 : 0 < s.size) (hs : s.size ≤ 256) (h47 : s.data.toList.head? = some 47) (hz : (0 : UInt8) ∉ s.data.toList) : Calls Tryd.prog 24 #[.string s] w (Parsed bs s w) := by
  have hl : s.data.toList.length = s.size := by rw [Array.length_toList]; rfl
  obtain ⟨c, l, hcl⟩ : ∃ c l, s.data.toList = c :: l := by
    cases h : s.data.toList with
    | nil => rw [h] at hl; simp at hl; omega
    | cons c l => exact ⟨c, l, rfl⟩
  have hne : s.toList.isEmpty = false := by rw [Lib.toList_data, hcl]; rfl
  have hx := at_zero hcl h0
  have hc47 : c = 47 := by rw [hcl] at h47; exact Option.some.inj h47
  have hq : (((s[0]'h0).toNat : Int) != 47) = false := by rw [hx, hc47]; decide
  have hz' : decide ((0 : UInt8) ∈ s.data.toList) = false := decide_eq_false hz
  have hbad : Hid (bad s = if (Path.parts s.data.toList).any (fun x => decide (24 < x.length)) then 115 else 0) := hid (by
    unfold bad Path.bad
    rw [if_neg (by intro e; rw [e] at hl; simp at hl; omega), if_neg (by omega), if_neg (by rintro (h | h); exact h h47; exact hz h)])
  obtain ⟨aL, haL, hAL⟩ := errv_of h (i := 14) rfl
  clear hx h47 hcl
  go_enter Tryd.func24, Tryd.ntmps24
  go_wp2_with fail
  refine (contains_w s _).mono ?_
  rintro e w' ⟨rfl, rfl⟩
  rw [hz']
  go_wp2_with fail
  refine (split_w s _ (by omega)).mono ?_
  rintro e w' ⟨rfl, rfl⟩
  have hpl := pieces_le s
  generalize hP : pieces s = P at *
  have HP := hid hP
  clear hP
  go_wp2_with fail
  have r1 : (((w.alloc RB).alloc RB).alloc (.cells (P.map Value.string).toArray 9)).heap[w.heap.size]? = some RB := alloc_old (alloc_old (alloc_at rfl _))
  have r2 : (((w.alloc RB).alloc RB).alloc (.cells (P.map Value.string).toArray 9)).heap[w.heap.size + 1]? = some RB := alloc_old (alloc_at (by simp) _)
  have r3 : (((w.alloc RB).alloc RB).alloc (.cells (P.map Value.string).toArray 9)).heap[w.heap.size + 1 + 1]? = some (.cells (P.map Value.string).toArray 9) := alloc_at (by simp) _
  have r4 : (((w.alloc RB).alloc RB).alloc (.cells (P.map Value.string).toArray 9)).heap.size = w.heap.size + 3 := by simp
  have r5 : Below w.heap.size w (((w.alloc RB).alloc RB).alloc (.cells (P.map Value.string).toArray 9)) := (((Below.refl _ w).alloc (Nat.le_refl _) RB).alloc (by simp) RB).alloc (by simp; omega) _
  have hB := h.below r5
  generalize hW : ((w.alloc RB).alloc RB).alloc (.cells (P.map Value.string).toArray 9) = wS at *
  clear hW
  go_loopw [31] (fun iv wr => ∃ (k : Nat) (v : Value), k ≤ P.length ∧ iv = .int .i64 k ∧ wr.heap[w.heap.size]? = some RB ∧ wr.heap[w.heap.size + 1]? = some (.cells #[v, .bool false] 57) ∧
      wr.heap[w.heap.size + 1 + 1]? = some (.cells (P.map Value.string).toArray 9) ∧ wr.ownsRow (w.heap.size + 3) 9 1 v ((P.take k).filter kept).length (((P.take k).filter kept).map Value.string) ∧
      (∀ x ∈ (P.take k).filter kept, x.size ≤ 24) ∧ Below w.heap.size w wr ∧ w.heap.size + 3 ≤ wr.heap.size) (fun iv _ => P.length - (intOf iv).toNat)
  case atStart => exact ⟨0, _, by omega, rfl, r1, r2, r3, World.ownsRow_nil _ _ _ _, by simp, r5, by omega⟩
  case round =>
    clear r1 r2 r3 r5 hB
    obtain ⟨k, v, hk, rfl, r1, r2, r3, own, hsm, hb, hsz⟩ := hrel
    by_cases hlt : k < P.length
    · have hcx := texts_at r3 hlt
      have HS := hid (List.take_succ_eq_append_getElem hlt)
      have HM := hid (List.getElem_mem hlt)
      generalize P[k] = x at hcx HS HM
      obtain ⟨q1, q2, q3, q4⟩ := two r2
      obtain ⟨p1, p2, p3, p4⟩ := two r1
      have hA1 := (hAL.below hb).1
      obtain ⟨va, vc, rfl, hvr⟩ := ownsRow_slice own
      by_cases hkp : kept x = true
      · have e1 := hid (show (P.take (k + 1)).filter kept = (P.take k).filter kept ++ [x] by rw [HS.out, List.filter_append, List.filter_cons, if_pos hkp]; rfl)
        have hk2 := kept_iff x
        rw [hkp] at hk2
        have k1 : x.toList.isEmpty = false := by
          cases h : x.toList.isEmpty
          · rfl
          · rw [h] at hk2; simp at hk2
        have k2 : (x.toList == [46]) = false := by rw [k1] at hk2; simpa using hk2
        by_cases h24 : x.size ≤ 24
        · have hn : ((P.take k).filter kept).length ≤ 257 := Nat.le_trans (List.length_filter_le _ _) (by rw [List.length_take]; omega)
          generalize hF : (P.take k).filter kept = F at *
          have HK := hid hk2
          clear hk2 hkp
          go_wp2_with (at_builtin; go_must (refine wpList_push elS rfl _ _ rfl (w.heap.size + 3) _ F.length _ rfl (own.alloc _) wr.heap.size (.string x) rfl (by simp) rfl (by unfold maxLen; omega) (by omega) (by simp; omega) ?_); intro v' w1 hown1 hb1 _; obtain ⟨va', vc', rfl, hvr'⟩ := ownsRow_slice hown1; have r2x := (hb1.block (w.heap.size + 1) (by omega)).trans (alloc_old r2); obtain ⟨y1, y2, y3, y4⟩ := two r2x)
          go_roundw
          case rel =>
            refine ⟨k + 1, .slice va' (F.length + 1) vc', by omega, by go_num, other_set ((hb1.block _ (by omega)).trans (alloc_old r1)) (by omega), two_set r2x _, other_set ((hb1.block _ (by omega)).trans (alloc_old r3)) (by omega), ?_, ?_, ((hb.alloc (by omega) _).trans (hb1.mono (by omega))).setCell (by simp) _, ?_⟩
            · rw [e1.out, List.length_append, List.map_append]; exact kept_set hown1 (by omega) _ _
            · rw [e1.out]
              intro y hy
              rcases List.mem_append.1 hy with hy | hy
              · exact hsm y hy
              · rw [List.mem_singleton.1 hy]; exact h24
            · have := hb1.size
              simp at this ⊢
              omega
          case measure => simp [intOf]; omega
        · have hb115 : bad s = 115 := by
            rw [hbad.out, if_pos]
            rw [List.any_eq_true]
            refine ⟨x.data.toList, ?_, ?_⟩
            · unfold Path.parts
              rw [List.mem_filter, ← pieces_map, HP.out]
              exact ⟨List.mem_map_of_mem HM.out, hkp⟩
            · rw [decide_eq_true_eq, Array.length_toList]
              show 24 < x.size
              omega
          obtain ⟨o1, o2⟩ := out_bad (s := s) (by omega)
          have HQ : Hid (∀ (e : Ending) (w' : World), e = .returned (.tuple #[Pt (.slice none 0 0) false, ev aL]) → Below w.heap.size w w' → Parsed bs s w e w') := hid (by
            rintro e w' rfl hb
            unfold Parsed
            rw [o1, o2, hb115, haL]
            exact ⟨_, rfl, World.ownsRow_nil _ _ _ _, hb⟩)
          clear hk2 hkp own e1 hsm hb115 o1 o2 hbad haL
          generalize Parsed bs s w = QQ at *
          have h24' : (24 : Int) < (x.size : Int) := by omega
          have hlt1 : 4 < w.heap.size := World.block_lt_of_cell? w ⟨4, 0, none⟩ hAL.1
          have hn1 : ¬ w.heap.size = 4 := by omega
          have hn2 : ¬ 4 = w.heap.size := by omega
          go_wp2
          go_region
          all_goals go_wp2
          refine bodyPost_ret (v := .tuple #[Pt (.slice none 0 0) false, ev aL]) (by simp [results, Tryd.results24, go_sem, p1, p2]) rfl (HQ.out _ _ rfl ?_)
          exact ((hb.setCell (Nat.le_refl _) _).setCell (Nat.le_refl _) _).drew
      · have hk2 := kept_iff x
        rw [Bool.not_eq_true] at hkp
        rw [hkp] at hk2
        have e1 := hid (show (P.take (k + 1)).filter kept = (P.take k).filter kept by rw [HS.out, List.filter_append, List.filter_cons, if_neg (by rw [hkp]; decide), List.filter_nil, List.append_nil])
        cases k1 : x.toList.isEmpty
        · have k2 : (x.toList == [46]) = true := by rw [k1] at hk2; simpa using hk2
          clear hk2
          go_wp2
          go_roundw
          case rel => exact ⟨k + 1, _, by omega, by go_num, r1, r2, r3, by rw [e1.out]; exact own, by rw [e1.out]; exact hsm, hb, hsz⟩
          case measure => simp [intOf]; omega
        · clear hk2
          go_wp2
          go_roundw
          case rel => exact ⟨k + 1, _, by omega, by go_num, r1, r2, r3, by rw [e1.out]; exact own, by rw [e1.out]; exact hsm, hb, hsz⟩
          case measure => simp [intOf]; omega
    · obtain rfl : k = P.length := by omega
      rw [List.take_length] at own hsm
      obtain ⟨va, vc, rfl, hvr⟩ := ownsRow_slice own
      have hb0 : bad s = 0 := by
        rw [hbad.out, if_neg]
        rw [List.any_eq_true]
        rintro ⟨y, hy, hy2⟩
        unfold Path.parts at hy
        rw [List.mem_filter, ← pieces_map, HP.out, List.mem_map] at hy
        obtain ⟨⟨z, hz, rfl⟩, hk2⟩ := hy
        have := hsm z (List.mem_filter.2 ⟨hz, hk2⟩)
        rw [decide_eq_true_eq, Array.length_toList] at hy2
        have h3 : z.data.size = z.size := rfl
        omega
      have hout : out s = P.filter kept := by unfold out good; rw [if_pos hb0, HP.out]
      obtain ⟨q1, q2, q3, q4⟩ := two r2
      obtain ⟨p1, p2, p3, p4⟩ := two r1
      have hsl : slash s = (!(P.filter kept).isEmpty && s.data.toList.getLast? == some 47) := by
        unfold slash Path.slash Path.parts
        rw [if_pos hb0, ← pieces_map, HP.out, List.filter_map, List.isEmpty_map]
        rfl
      have HQ : Hid (∀ (e : Ending) (w' : World), e = .returned (.tuple #[Pt (.slice va (P.filter kept).length vc) (slash s), .nilIface]) → w'.ownsRow w.heap.size 9 1 (.slice va (P.filter kept).length vc) (P.filter kept).length ((P.filter kept).map Value.string) → Below w.heap.size w w' → Parsed bs s w e w') := hid (by
        rintro e w' rfl ho hb
        unfold Parsed
        rw [hb0, hout]
        exact ⟨_, rfl, ho, hb⟩)
      clear hout hb0 hsm hbad
      generalize hF : P.filter kept = F at *
      rcases Nat.eq_zero_or_pos F.length with hF0 | hF0
      · have hE : F = [] := List.eq_nil_of_length_eq_zero hF0
        rw [hE] at hsl
        rw [hsl] at HQ
        clear hsl hE
        generalize Parsed bs s w = QQ at *
        go_wp2
        refine bodyPost_ret (v := .tuple #[Pt (.slice va F.length vc) false, .nilIface]) (by simp [results, Tryd.results24, go_sem, p1, p2, hF0]) rfl (HQ.out _ _ rfl ?_ ?_)
        · exact ownsRow_base (kept_set (kept_set (kept_set own (by omega) _ _) (by omega) _ _) (by omega) _ _) (by omega)
        · exact ((hb.setCell (by simp) _).setCell (Nat.le_refl _) _).setCell (Nat.le_refl _) _
      · have hlast : s.data.toList.getLast? = some (s[s.size - 1]'(by omega)) := by
          rw [List.getLast?_eq_getElem?, hl, Array.getElem?_toList]
          exact Array.getElem?_eq_getElem (show s.size - 1 < s.data.size by show s.size - 1 < s.size; omega)
        have hFe : F.isEmpty = false := by cases F with
          | nil => simp at hF0
          | cons _ _ => rfl
        rw [hlast, hFe] at hsl
        have hcmp : ((some (s[s.size - 1]'(by omega)) : Option UInt8) == some 47) = ((((s[s.size - 1]'(by omega)).toNat : Nat) : Int) == 47) := by
          generalize (s[s.size - 1]'(by omega)) = d
          rw [Bool.eq_iff_iff, beq_iff_eq, beq_iff_eq, Option.some_inj]
          constructor
          · rintro rfl; rfl
          · intro e
            have e2 : d.toNat = (47 : UInt8).toNat := by show d.toNat = 47; omega
            exact UInt8.toNat_inj.1 e2
        rw [hcmp] at hsl
        rw [hsl] at HQ
        clear hsl hcmp hlast hFe
        generalize Parsed bs s w = QQ at *
        have e3 : (0 : Int) ≤ (s.size : Int) - 1 := by omega
        go_wp2
        rw [Bool.not_false, Bool.true_and] at HQ
        generalize ((((s[s.size - 1]'(by omega)).toNat : Nat) : Int) == 47) = bl at *
        refine bodyPost_ret (v := .tuple #[Pt (.slice va F.length vc) bl, .nilIface]) (by simp [results, Tryd.results24, go_sem, p1, p2]) rfl (HQ.out _ _ rfl ?_ ?_)
        · exact ownsRow_base (kept_set (kept_set (kept_set own (by omega) _ _) (by omega) _ _) (by omega) _ _) (by omega)
        · exact ((hb.setCell (by simp) _).setCell (Nat.le_refl _) _).setCell (Nat.le_refl _) _

/-- path.Parse -/
theorem parse_w (bs : List Addr) (s : ByteArray) (w : World) (h : Bp w bs) (h63 : s.size ≤ 9223372036854775807) : Calls Tryd.prog 24 #[.string s] w (Parsed bs s w) := by
  rcases Nat.eq_zero_or_pos s.size with h0 | h0
  · refine parse_empty bs s w h ?_
    have : s.data.size = 0 := h0
    cases s with
    | mk d =>
      have hd : d = #[] := Array.eq_empty_of_size_eq_zero this
      rw [hd]
  · rcases Nat.lt_or_ge 256 s.size with h1 | h1
    · exact parse_long bs s w h h1 h63
    · by_cases h2 : s.data.toList.head? = some 47
      · by_cases h3 : (0 : UInt8) ∈ s.data.toList
        · exact parse_inval bs s w h h0 h1 (.inr h3)
        · exact parse_rest bs s w h h0 h1 h2 h3
      · exact parse_inval bs s w h h0 h1 (.inl h2)
end Go.Proofs.YtagbnacffiagcaaDoor.PathW
