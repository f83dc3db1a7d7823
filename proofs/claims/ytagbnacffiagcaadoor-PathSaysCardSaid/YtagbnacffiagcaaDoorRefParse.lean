/- The document's Parse (breviaryref1). -/
import Derived.Test.YtagbnacffiagcaaDoorRefPath
namespace Go.Proofs.YtagbnacffiagcaaDoor.Path
open Go
/-- pieces behind one another, each ended by a slash, and one that is not *-/
def Inv (pre : List UInt8) (dn : List (List UInt8)) (cur : List UInt8) : Prop :=
  pre = (dn.map (· ++ [47])).flatten ++ cur ∧ (∀ x ∈ dn, ∀ c ∈ x, c ≠ 47) ∧ ∀ c ∈ cur, c ≠ 47
theorem Inv.nil : Inv [] [] [] := ⟨rfl, by simp, by simp⟩
theorem Inv.other {pre : List UInt8} {dn : List (List UInt8)} {cur : List UInt8} (h : Inv pre dn cur) {c : UInt8} (hc : c ≠ 47) : Inv (pre ++ [c]) dn (cur ++ [c]) := by
  obtain ⟨h1, h2, h3⟩ := h
  refine ⟨by rw [h1, List.append_assoc], h2, fun d hd => ?_⟩
  rcases List.mem_append.1 hd with hd | hd
  · exact h3 d hd
  · rw [List.mem_singleton.1 hd]; exact hc
theorem Inv.slash {pre : List UInt8} {dn : List (List UInt8)} {cur : List UInt8} (h : Inv pre dn cur) : Inv (pre ++ [47]) (dn ++ [cur]) [] := by
  obtain ⟨h1, h2, h3⟩ := h
  refine ⟨by rw [h1]; simp, fun x hx => ?_, by simp⟩
  rcases List.mem_append.1 hx with hx | hx
  · exact h2 x hx
  · rw [List.mem_singleton.1 hx]; exact h3
theorem Inv.cut {pre : List UInt8} {dn : List (List UInt8)} {cur : List UInt8} (h : Inv pre dn cur) : Path.cut pre = dn ++ [cur] := by
  induction dn generalizing pre with
  | nil =>
    obtain ⟨h1, _, h3⟩ := h
    rw [h1]
    exact cut_none cur h3
  | cons d dn ih =>
    obtain ⟨h1, h2, h3⟩ := h
    have hr : Inv ((dn.map (· ++ [47])).flatten ++ cur) dn cur := ⟨rfl, fun x hx => h2 x (List.mem_cons_of_mem _ hx), h3⟩
    have e : pre = d ++ 47 :: ((dn.map (· ++ [47])).flatten ++ cur) := by rw [h1]; simp
    rw [e, cut_mid, cut_none d (h2 d List.mem_cons_self), ih hr]
    rfl
/-- what the law has behind i of the bytes: the parts, the part under way, whether one is too long -/
structure Got (b : List UInt8) (i : Nat) (ps : List (List UInt8)) (cur : List UInt8) : Prop where
  ex : ∃ dn, Inv ((b.take i).drop 1) dn cur ∧ ps = dn.filter keep
theorem take_drop_succ {b : List UInt8} {i : Nat} (h0 : 0 < i) (h : i < b.length) : (b.take (i + 1)).drop 1 = (b.take i).drop 1 ++ [b[i]] := by
  rw [List.take_succ_eq_append_getElem h, List.drop_append]
  congr 1
  rw [List.length_take]
  rw [show 1 - min i b.length = 0 by omega]
  rfl
theorem Got.start (b : List UInt8) : Got b 1 [] [] := by
  refine ⟨[], ?_, rfl⟩
  have : (b.take 1).drop 1 = [] := by cases b <;> rfl
  rw [this]
  exact Inv.nil
theorem Got.other {b : List UInt8} {i : Nat} {ps : List (List UInt8)} {cur : List UInt8} (g : Got b i ps cur) (h0 : 0 < i) (h : i < b.length) (hc : b[i] ≠ 47) : Got b (i + 1) ps (cur ++ [b[i]]) := by
  obtain ⟨dn, h1, h2⟩ := g.ex
  exact ⟨dn, by rw [take_drop_succ h0 h]; exact h1.other hc, h2⟩
theorem Got.slash {b : List UInt8} {i : Nat} {ps : List (List UInt8)} {cur : List UInt8} (g : Got b i ps cur) (h0 : 0 < i) (h : i < b.length) (hc : b[i] = 47) : Got b (i + 1) (ps ++ if keep cur then [cur] else []) [] := by
  obtain ⟨dn, h1, h2⟩ := g.ex
  refine ⟨dn ++ [cur], by rw [take_drop_succ h0 h, hc]; exact h1.slash, ?_⟩
  rw [List.filter_append, h2]
  cases hk : keep cur <;> simp [hk]
/-- at the end -/
theorem Got.fin {b : List UInt8} {ps : List (List UInt8)} {cur : List UInt8} (g : Got b b.length ps cur) (h47 : b.head? = some 47) : parts b = ps ++ if keep cur then [cur] else [] := by
  obtain ⟨dn, h1, h2⟩ := g.ex
  rw [List.take_length] at h1
  cases b with
  | nil => cases h47
  | cons c l =>
    obtain rfl : c = 47 := Option.some.inj h47
    rw [parts_slash]
    unfold parts
    have h3 : cut l = dn ++ [cur] := Inv.cut (pre := l) h1
    rw [h3, List.filter_append, h2]
    cases hk : keep cur <;> simp [hk]
end Go.Proofs.YtagbnacffiagcaaDoor.Path
namespace Go.Proofs.YtagbnacffiagcaaDoor.PathW
open Go Go.RowKit Go.Proofs.YtagbnacffiagcaaDoor.Mem Go.Proofs.YtagbnacffiagcaaDoor.SeeW
set_option linter.unusedVariables false
set_option maxRecDepth 100000

def RParsed (s : ByteArray) (w : World) (e : Ending) (w' : World) : Prop :=
  ∃ v, e = .returned (.tuple #[Rt v (slash s), .int .i64 (bad s : Nat)]) ∧ w'.ownsRow w.heap.size 9 1 v (out s).length ((out s).map Value.string) ∧ Below w.heap.size w w'
theorem rparse_empty (s : ByteArray) (w : World) (hs : s = ⟨#[]⟩) : Calls Tryd.prog 28 #[.string s] w (RParsed s w) := by
  have hb : bad s = 109 := by subst hs; rfl
  obtain ⟨o1, o2⟩ := out_bad (s := s) (by omega)
  unfold RParsed
  rw [o1, o2, hb]
  subst hs
  clear o1 o2 hb
  go_enter Tryd.func28, Tryd.ntmps28
  go_wp2
  refine bodyPost_ret (v := .tuple #[Rt (.slice none 0 0) false, .int .i64 (109 : Nat)]) (by simp [results, Tryd.results28, go_sem]) rfl ⟨_, rfl, World.ownsRow_nil _ _ _ _, ((Below.refl _ _).alloc (Nat.le_refl _) _)⟩
theorem rparse_long (s : ByteArray) (w : World) (hs : 256 < s.size) (h63 : s.size ≤ 9223372036854775807) : Calls Tryd.prog 28 #[.string s] w (RParsed s w) := by
  have hl : s.data.toList.length = s.size := by rw [Array.length_toList]; rfl
  have hb : bad s = 115 := by
    unfold bad Path.bad
    rw [if_neg (by intro e; rw [e] at hl; simp at hl; omega), if_pos (by omega)]
  obtain ⟨o1, o2⟩ := out_bad (s := s) (by omega)
  have hne : s.toList.isEmpty = false := by
    rw [Lib.toList_data]
    cases h : s.data.toList with
    | nil => rw [h] at hl; simp at hl; omega
    | cons _ _ => rfl
  unfold RParsed
  rw [o1, o2, hb]
  clear o1 o2 hb hl
  go_enter Tryd.func28, Tryd.ntmps28
  go_wp2
  refine bodyPost_ret (v := .tuple #[Rt (.slice none 0 0) false, .int .i64 (115 : Nat)]) (by simp [results, Tryd.results28, go_sem]) rfl ⟨_, rfl, World.ownsRow_nil _ _ _ _, ((Below.refl _ _).alloc (Nat.le_refl _) _)⟩
/-- where the second loop stands -/
def St (s : ByteArray) (i : Nat) (ps : List ByteArray) (cur : ByteArray) : Prop :=
  (1 ≤ i ∧ i ≤ s.size ∧ Path.Got s.data.toList i (ls ps) cur.data.toList ∧ cur.size ≤ i ∧ ps.length ≤ i) ∨ (i = s.size + 1 ∧ Path.parts s.data.toList = ls ps)
theorem one_of (s : ByteArray) (i : Nat) (h : i < s.size) : (s.extract i (i + 1)).data.toList = [s[i]'h] := by
  have h2 : i < s.data.toList.length := by rw [Array.length_toList]; exact h
  have e : (s.extract i (i + 1)).data.toList = (s.data.toList.drop i).take 1 := by
    rw [ByteArray.data_extract, Array.toList_extract, List.extract_eq_take_drop]
    rw [show i + 1 - i = 1 by omega]
  rw [e, List.drop_eq_getElem_cons h2]
  simp [Array.getElem_toList]
  rfl
theorem slice_one (s : ByteArray) (i : Nat) (h : i < s.size) (w : World) : (Instr.slice 9 (.string s) (some (.int .i64 (i : Int))) (some (.int .i64 ((i : Int) + 1))) none).run Tryd.prog w = .ok (.string (s.extract i (i + 1))) w := by
  have := run_slice_string (P := Tryd.prog) w 9 s .i64 .i64 (i : Int) ((i : Int) + 1) Tryd.underlying9 (by omega) (by omega) (by omega)
  rw [this]
  rfl
set_option maxHeartbeats 3200000 in
theorem rparse_rest (s : ByteArray) (w : World) (h0 : 0 < s.size) (hs : s.size ≤ 256) : Calls Tryd.prog 28 #[.string s] w (RParsed s w) := by
  have hl : s.data.toList.length = s.size := by rw [Array.length_toList]; rfl
  obtain ⟨c, l, hcl⟩ : ∃ c l, s.data.toList = c :: l := by
    cases h : s.data.toList with
    | nil => rw [h] at hl; simp at hl; omega
    | cons c l => exact ⟨c, l, rfl⟩
  have hne : s.toList.isEmpty = false := by rw [Lib.toList_data, hcl]; rfl
  have HL := hid hl
  have HCL := hid hcl
  clear hl hcl
  go_enter Tryd.func28, Tryd.ntmps28
  go_wp2_with fail
  go_loopw [4, 5] (fun zv iv wr => ∃ k : Nat, k ≤ s.size ∧ iv = .int .i64 (k : Int) ∧ zv = .bool (decide ((0 : UInt8) ∈ s.data.toList.take k)) ∧ wr = w.alloc RR) (fun _ iv _ => s.size - (intOf iv).toNat)
  case atStart => exact ⟨0, by omega, rfl, by simp, rfl⟩
  case round =>
    obtain ⟨k, hk, rfl, rfl, rfl⟩ := hrel
    by_cases hlt : k < s.size
    · have HS := hid (show s.data.toList.take (k + 1) = s.data.toList.take k ++ [s.data.toList[k]'(by rw [HL.out]; exact hlt)] from List.take_succ_eq_append_getElem _)
      have HX := hid (show s.data.toList[k]'(by rw [HL.out]; exact hlt) = s[k]'hlt from by simp [Array.getElem_toList]; rfl)
      have HB : Hid ((((s[k]'hlt).toNat : Int) == 0) = decide ((0 : UInt8) = s[k]'hlt)) := hid (by
        rw [Bool.eq_iff_iff, beq_iff_eq, decide_eq_true_eq]
        refine ⟨fun h => ?_, fun h => by rw [← h]; rfl⟩
        have h2 : (s[k]'hlt).toNat = 0 := by omega
        exact (UInt8.toNat_inj.1 h2).symm)
      cases hz : decide ((0 : UInt8) ∈ s.data.toList.take k)
      · go_wp2_with fail
        refine ⟨⟨k + 1, by omega, by go_num, ?_, trivial⟩, by simp [intOf]; omega⟩
        rw [HB.out, HS.out, HX.out]
        congr 1
        rw [decide_eq_false_iff_not] at hz
        rw [Bool.eq_iff_iff, decide_eq_true_eq, decide_eq_true_eq, List.mem_append, List.mem_singleton]
        exact ⟨fun h => .inr h, fun h => h.resolve_left hz⟩
      · go_wp2_with fail
        refine ⟨⟨k + 1, by omega, by go_num, ?_, trivial⟩, by simp [intOf]; omega⟩
        rw [HS.out]
        congr 1
        rw [decide_eq_true_eq] at hz
        symm
        rw [decide_eq_true_eq, List.mem_append]
        exact .inl hz
    · obtain rfl : k = s.size := by omega
      rw [List.take_of_length_le (by rw [HL.out]; exact Nat.le_refl _)]
      have hx := at_zero HCL.out h0
      have bx := (Below.refl w.heap.size w).alloc (Nat.le_refl _) RR
      have hr0 : (w.alloc RR).heap[w.heap.size]? = some RR := alloc_at rfl _
      by_cases hgd : c = 47 ∧ (0 : UInt8) ∉ s.data.toList
      · obtain ⟨hc47, hz⟩ := hgd
        have hq : (((s[0]'h0).toNat : Int) != 47) = false := by rw [hx, hc47]; decide
        rw [decide_eq_false hz]
        have HZ := hid hz
        have h47 := hid (show s.data.toList.head? = some 47 by rw [HCL.out, hc47]; rfl)
        clear hx hz hc47
        go_wp2_with fail
        have bx3 := bx.alloc (by simp) (.cells #[.slice none 0 0, .bool false] 64)
        have hr2 : ((w.alloc RR).alloc (.cells #[.slice none 0 0, .bool false] 64)).heap[w.heap.size]? = some RR := alloc_old hr0
        have hq2 : ((w.alloc RR).alloc (.cells #[.slice none 0 0, .bool false] 64)).heap[w.heap.size + 1]? = some (.cells #[.slice none 0 0, .bool false] 64) := alloc_at (by simp) _
        go_loopw [7, 8, 9] (fun pv lv iv wr => ∃ (i : Nat) (ps : List ByteArray) (cur : ByteArray) (v : Value), iv = .int .i64 (i : Int) ∧ pv = .string cur ∧ lv = .bool ((ls ps).any fun x => decide (24 < x.length)) ∧ St s i ps cur ∧ wr.heap[w.heap.size]? = some RR ∧ wr.heap[w.heap.size + 1]? = some (.cells #[v, .bool false] 64) ∧ wr.ownsRow (w.heap.size + 2) 9 1 v ps.length (ps.map Value.string) ∧ Below w.heap.size w wr ∧ w.heap.size + 2 ≤ wr.heap.size) (fun _ _ iv _ => s.size + 1 - (intOf iv).toNat)
        case atStart => exact ⟨1, [], ⟨#[]⟩, _, rfl, rfl, rfl, .inl ⟨by omega, by omega, Path.Got.start _, by show 0 ≤ _; omega, by show 0 ≤ _; omega⟩, hr2, hq2, World.ownsRow_nil _ _ _ _, bx3, by simp⟩
        case round =>
          clear bx bx3 hr0 hr2 hq2
          obtain ⟨i, ps, cur, v, rfl, rfl, rfl, hst, hr, hq', own, hb, hsz⟩ := hrel
          rcases hst with ⟨hi1, hi2, hg, hcs, hps⟩ | ⟨hi, hfin⟩
          · obtain ⟨va, vc, rfl, _⟩ := ownsRow_slice own
            obtain ⟨q1, q2, q3, q4⟩ := two hq'
            by_cases hlt : i < s.size
            · have HX := hid (show s.data.toList[i]'(by rw [HL.out]; exact hlt) = s[i]'hlt from by simp [Array.getElem_toList]; rfl)
              by_cases hc : s[i]'hlt = 47
              · have hqc : (((s[i]'hlt).toNat : Int) != 47) = false := by rw [hc]; decide
                have hcs2 : s.data.toList[i]'(by rw [HL.out]; exact hlt) = 47 := HX.out.trans hc
                have HC2 := hid hcs2
                clear hc hcs2
                have hkk := kept_iff cur
                by_cases hkp : kept cur = true
                · have k1 : cur.toList.isEmpty = false := by
                    cases h : cur.toList.isEmpty
                    · rfl
                    · rw [hkp, h] at hkk; simp at hkk
                  have k2 : (cur.toList == [46]) = false := by rw [hkp, k1] at hkk; simpa using hkk
                  have hal : ((ls (ps ++ [cur])).any fun x => decide (24 < x.length)) = (((ls ps).any fun x => decide (24 < x.length)) || decide (24 < cur.size)) := by
                    have : cur.data.toList.length = cur.size := by rw [Array.length_toList]; rfl
                    show ((ps ++ [cur]).map _).any _ = _
                    rw [List.map_append, List.any_append]
                    simp [this]
                  have HAL := hid hal
                  have HKP := hid hkp
                  have HG := hid hg
                  clear hkk hkp hal hg
                  cases hlg : ((ls ps).any fun x => decide (24 < x.length)) with
                  | true =>
                    rw [hlg] at HAL
                    have HLG := hid hlg
                    clear hlg
                    go_wp2_with (at_builtin; go_must (refine wpList_push elS rfl _ _ rfl (w.heap.size + 2) (.slice va ps.length vc) ps.length _ rfl (own.alloc _) wr.heap.size (.string cur) rfl (by simp) rfl (by unfold maxLen; omega) (by omega) (by simp; omega) ?_); intro v' w1 own1 hb1 _; obtain ⟨va1, vc1, rfl, _⟩ := ownsRow_slice own1; have hq1 := (hb1.block (w.heap.size + 1) (by omega)).trans (alloc_old hq'); obtain ⟨z1, z2, z3, z4⟩ := two hq1)
                    go_roundw
                    case rel =>
                      refine ⟨i + 1, ps ++ [cur], ⟨#[]⟩, _, by go_num, rfl, by rw [HAL.out]; rfl, .inl ⟨by omega, by omega, by have := HG.out.slash hi1 (by rw [HL.out]; exact hlt) HC2.out; rw [if_pos (show Path.keep cur.data.toList = true from HKP.out)] at this; show Path.Got _ _ ((ps ++ [cur]).map _) _; rw [List.map_append]; exact this, Nat.zero_le _, by rw [List.length_append]; show ps.length + 1 ≤ _; omega⟩, ?_, two_set hq1 _, ?_, ?_, ?_⟩
                      · rw [heap_setCell_other _ ⟨w.heap.size + 1, 0, none⟩ _ _ (by simp)]; exact (hb1.block w.heap.size (by omega)).trans (alloc_old hr)
                      · rw [List.map_append, List.length_append]; exact kept_set (b := w.heap.size + 1) own1 (Nat.lt_succ_self _) _ _
                      · exact ((hb.alloc (by omega) _).trans (hb1.mono (by omega))).setCell (Nat.le_succ _) _
                      · have := hb1.size; simp at *; omega
                    case measure => simp [intOf] <;> omega
                  | false =>
                    rw [hlg] at HAL
                    have HLG := hid hlg
                    clear hlg
                    go_wp2_with (at_builtin; go_must (refine wpList_push elS rfl _ _ rfl (w.heap.size + 2) (.slice va ps.length vc) ps.length _ rfl (own.alloc _) wr.heap.size (.string cur) rfl (by simp) rfl (by unfold maxLen; omega) (by omega) (by simp; omega) ?_); intro v' w1 own1 hb1 _; obtain ⟨va1, vc1, rfl, _⟩ := ownsRow_slice own1; have hq1 := (hb1.block (w.heap.size + 1) (by omega)).trans (alloc_old hq'); obtain ⟨z1, z2, z3, z4⟩ := two hq1)
                    go_roundw
                    case rel =>
                      refine ⟨i + 1, ps ++ [cur], ⟨#[]⟩, _, by go_num, rfl, by rw [HAL.out, Bool.false_or]; first | rfl | (congr 1; exact decide_eq_decide.2 (by omega)), .inl ⟨by omega, by omega, by have := HG.out.slash hi1 (by rw [HL.out]; exact hlt) HC2.out; rw [if_pos (show Path.keep cur.data.toList = true from HKP.out)] at this; show Path.Got _ _ ((ps ++ [cur]).map _) _; rw [List.map_append]; exact this, Nat.zero_le _, by rw [List.length_append]; show ps.length + 1 ≤ _; omega⟩, ?_, two_set hq1 _, ?_, ?_, ?_⟩
                      · rw [heap_setCell_other _ ⟨w.heap.size + 1, 0, none⟩ _ _ (by simp)]; exact (hb1.block w.heap.size (by omega)).trans (alloc_old hr)
                      · rw [List.map_append, List.length_append]; exact kept_set (b := w.heap.size + 1) own1 (Nat.lt_succ_self _) _ _
                      · exact ((hb.alloc (by omega) _).trans (hb1.mono (by omega))).setCell (Nat.le_succ _) _
                      · have := hb1.size; simp at *; omega
                    case measure => simp [intOf] <;> omega
                · have hkp' : kept cur = false := by simpa using hkp
                  have HKP := hid hkp'
                  have HG := hid hg
                  clear hg hkp
                  generalize hlg : ((ls ps).any fun x => decide (24 < x.length)) = lg at *
                  have HLG := hid hlg
                  clear hlg
                  cases k1 : cur.toList.isEmpty with
                  | true =>
                    clear hkk hkp'
                    go_wp2_with fail
                    go_roundw
                    case rel => exact ⟨i + 1, ps, ⟨#[]⟩, _, by go_num, rfl, by rw [HLG.out], .inl ⟨by omega, by omega, by have := HG.out.slash hi1 (by rw [HL.out]; exact hlt) HC2.out; rw [if_neg (show ¬ Path.keep cur.data.toList = true from by rw [show Path.keep cur.data.toList = false from HKP.out]; decide), List.append_nil] at this; exact this, Nat.zero_le _, by omega⟩, hr, hq', own, hb, hsz⟩
                    case measure => simp [intOf] <;> omega
                  | false =>
                    have k2 : (cur.toList == [46]) = true := by rw [hkp', k1] at hkk; simpa using hkk
                    clear hkk hkp'
                    go_wp2_with fail
                    go_roundw
                    case rel => exact ⟨i + 1, ps, ⟨#[]⟩, _, by go_num, rfl, by rw [HLG.out], .inl ⟨by omega, by omega, by have := HG.out.slash hi1 (by rw [HL.out]; exact hlt) HC2.out; rw [if_neg (show ¬ Path.keep cur.data.toList = true from by rw [show Path.keep cur.data.toList = false from HKP.out]; decide), List.append_nil] at this; exact this, Nat.zero_le _, by omega⟩, hr, hq', own, hb, hsz⟩
                    case measure => simp [intOf] <;> omega
              · have hqc : (((s[i]'hlt).toNat : Int) != 47) = true := by
                  rw [bne_iff_ne]
                  intro e
                  exact hc (UInt8.toNat_inj.1 (by show (s[i]'hlt).toNat = 47; omega))
                generalize hlg : ((ls ps).any fun x => decide (24 < x.length)) = lg at *
                have HLG := hid hlg
                clear hlg
                have hsl := slice_one s i hlt
                have hon := one_of s i hlt
                have hys : (s.extract i (i + 1)).size ≤ 1 := by
                  have : (s.extract i (i + 1)).data.toList.length = (s.extract i (i + 1)).size := by rw [Array.length_toList]; rfl
                  rw [← this, hon]; exact Nat.le_refl _
                generalize s.extract i (i + 1) = y at *
                have hcy : cur.size + y.size ≤ 1000 := by omega
                have HON := hid hon
                have HC := hid hc
                have HG := hid hg
                clear hon hc hg
                go_wp2_with fail
                go_roundw
                case rel =>
                  refine ⟨i + 1, ps, _, _, by go_num, rfl, by rw [HLG.out], .inl ⟨by omega, by omega, ?_, ?_, by omega⟩, hr, hq', own, hb, hsz⟩
                  · have := HG.out.other hi1 (by rw [HL.out]; exact hlt) (by rw [HX.out]; exact HC.out)
                    rw [app_list, HON.out, ← HX.out]
                    exact this
                  · show (cur ++ y).size ≤ _
                    rw [ByteArray.size_append]
                    omega
                case measure => simp [intOf] <;> omega
            · obtain rfl : i = s.size := by omega
              have hkk := kept_iff cur
              by_cases hkp : kept cur = true
              · have k1 : cur.toList.isEmpty = false := by
                  cases h : cur.toList.isEmpty
                  · rfl
                  · rw [hkp, h] at hkk; simp at hkk
                have k2 : (cur.toList == [46]) = false := by rw [hkp, k1] at hkk; simpa using hkk
                have hal : ((ls (ps ++ [cur])).any fun x => decide (24 < x.length)) = (((ls ps).any fun x => decide (24 < x.length)) || decide (24 < cur.size)) := by
                  have : cur.data.toList.length = cur.size := by rw [Array.length_toList]; rfl
                  show ((ps ++ [cur]).map _).any _ = _
                  rw [List.map_append, List.any_append]
                  simp [this]
                have HAL := hid hal
                have HKP := hid hkp
                have HG := hid hg
                clear hkk hkp hal hg
                cases hlg : ((ls ps).any fun x => decide (24 < x.length)) with
                | true =>
                  rw [hlg] at HAL
                  have HLG := hid hlg
                  clear hlg
                  go_wp2_with (at_builtin; go_must (refine wpList_push elS rfl _ _ rfl (w.heap.size + 2) (.slice va ps.length vc) ps.length _ rfl (own.alloc _) wr.heap.size (.string cur) rfl (by simp) rfl (by unfold maxLen; omega) (by omega) (by simp; omega) ?_); intro v' w1 own1 hb1 _; obtain ⟨va1, vc1, rfl, _⟩ := ownsRow_slice own1; have hq1 := (hb1.block (w.heap.size + 1) (by omega)).trans (alloc_old hq'); obtain ⟨z1, z2, z3, z4⟩ := two hq1)
                  go_roundw
                  case rel =>
                    refine ⟨s.size + 1, ps ++ [cur], ⟨#[]⟩, _, by go_num, rfl, by rw [HAL.out]; rfl, .inr ⟨rfl, by have := Path.Got.fin (by rw [HL.out]; exact HG.out) h47.out; rw [if_pos (show Path.keep cur.data.toList = true from HKP.out)] at this; show _ = (ps ++ [cur]).map _; rw [List.map_append]; exact this⟩, ?_, two_set hq1 _, ?_, ?_, ?_⟩
                    · rw [heap_setCell_other _ ⟨w.heap.size + 1, 0, none⟩ _ _ (by simp)]; exact (hb1.block w.heap.size (by omega)).trans (alloc_old hr)
                    · rw [List.map_append, List.length_append]; exact kept_set (b := w.heap.size + 1) own1 (Nat.lt_succ_self _) _ _
                    · exact ((hb.alloc (by omega) _).trans (hb1.mono (by omega))).setCell (Nat.le_succ _) _
                    · have := hb1.size; simp at *; omega
                  case measure => simp [intOf] <;> omega
                | false =>
                  rw [hlg] at HAL
                  have HLG := hid hlg
                  clear hlg
                  go_wp2_with (at_builtin; go_must (refine wpList_push elS rfl _ _ rfl (w.heap.size + 2) (.slice va ps.length vc) ps.length _ rfl (own.alloc _) wr.heap.size (.string cur) rfl (by simp) rfl (by unfold maxLen; omega) (by omega) (by simp; omega) ?_); intro v' w1 own1 hb1 _; obtain ⟨va1, vc1, rfl, _⟩ := ownsRow_slice own1; have hq1 := (hb1.block (w.heap.size + 1) (by omega)).trans (alloc_old hq'); obtain ⟨z1, z2, z3, z4⟩ := two hq1)
                  go_roundw
                  case rel =>
                    refine ⟨s.size + 1, ps ++ [cur], ⟨#[]⟩, _, by go_num, rfl, by rw [HAL.out, Bool.false_or]; first | rfl | (congr 1; exact decide_eq_decide.2 (by omega)), .inr ⟨rfl, by have := Path.Got.fin (by rw [HL.out]; exact HG.out) h47.out; rw [if_pos (show Path.keep cur.data.toList = true from HKP.out)] at this; show _ = (ps ++ [cur]).map _; rw [List.map_append]; exact this⟩, ?_, two_set hq1 _, ?_, ?_, ?_⟩
                    · rw [heap_setCell_other _ ⟨w.heap.size + 1, 0, none⟩ _ _ (by simp)]; exact (hb1.block w.heap.size (by omega)).trans (alloc_old hr)
                    · rw [List.map_append, List.length_append]; exact kept_set (b := w.heap.size + 1) own1 (Nat.lt_succ_self _) _ _
                    · exact ((hb.alloc (by omega) _).trans (hb1.mono (by omega))).setCell (Nat.le_succ _) _
                    · have := hb1.size; simp at *; omega
                  case measure => simp [intOf] <;> omega
              · have hkp' : kept cur = false := by simpa using hkp
                have HKP := hid hkp'
                have HG := hid hg
                clear hg hkp
                generalize hlg : ((ls ps).any fun x => decide (24 < x.length)) = lg at *
                have HLG := hid hlg
                clear hlg
                cases k1 : cur.toList.isEmpty with
                | true =>
                  clear hkk hkp'
                  go_wp2_with fail
                  go_roundw
                  case rel => exact ⟨s.size + 1, ps, ⟨#[]⟩, _, by go_num, rfl, by rw [HLG.out], .inr ⟨rfl, by have := Path.Got.fin (by rw [HL.out]; exact HG.out) h47.out; rw [if_neg (show ¬ Path.keep cur.data.toList = true from by rw [show Path.keep cur.data.toList = false from HKP.out]; decide), List.append_nil] at this; exact this⟩, hr, hq', own, hb, hsz⟩
                  case measure => simp [intOf] <;> omega
                | false =>
                  have k2 : (cur.toList == [46]) = true := by rw [hkp', k1] at hkk; simpa using hkk
                  clear hkk hkp'
                  go_wp2_with fail
                  go_roundw
                  case rel => exact ⟨s.size + 1, ps, ⟨#[]⟩, _, by go_num, rfl, by rw [HLG.out], .inr ⟨rfl, by have := Path.Got.fin (by rw [HL.out]; exact HG.out) h47.out; rw [if_neg (show ¬ Path.keep cur.data.toList = true from by rw [show Path.keep cur.data.toList = false from HKP.out]; decide), List.append_nil] at this; exact this⟩, hr, hq', own, hb, hsz⟩
                  case measure => simp [intOf] <;> omega
          · subst hi
            have hlast : s.data.toList.getLast? = some (s[s.size - 1]'(by omega)) := by
              rw [List.getLast?_eq_getElem?, HL.out, List.getElem?_eq_getElem (by rw [HL.out]; omega)]
              simp [Array.getElem_toList]
              rfl
            have hbad : bad s = if (ls ps).any (fun x => decide (24 < x.length)) then 115 else 0 := by
              unfold bad Path.bad
              rw [if_neg (by rw [HCL.out]; simp), if_neg (by rw [HL.out]; omega), if_neg (by rintro (h | h); exact h h47.out; exact HZ.out h), hfin]
            have hout : bad s = 0 → out s = ps := fun h => by
              rw [out_eq h hfin, List.map_map]
              have : ((fun l : List UInt8 => (⟨l.toArray⟩ : ByteArray)) ∘ fun x : ByteArray => x.data.toList) = id := by funext x; rfl
              rw [this, List.map_id]
            have hslash : bad s = 0 → slash s = (decide (0 < ps.length) && decide (s[s.size - 1]'(by omega) = 47)) := fun h => by
              unfold slash
              rw [if_pos h]
              unfold Path.slash
              rw [hfin, hlast]
              have e1 : (!(ls ps).isEmpty) = decide (0 < ps.length) := by cases ps <;> simp
              have e2 : (some (s[s.size - 1]'(by omega)) == some 47) = decide (s[s.size - 1]'(by omega) = 47) := by
                rw [Bool.eq_iff_iff, beq_iff_eq, decide_eq_true_eq]
                exact ⟨fun h => Option.some.inj h, fun h => by rw [h]⟩
              rw [e1, e2]
            obtain ⟨va, vc, rfl, _⟩ := ownsRow_slice own
            obtain ⟨q1, q2, q3, q4⟩ := two hq'
            obtain ⟨p1, p2, p3, p4⟩ := two hr
            cases hlg : (ls ps).any (fun x => decide (24 < x.length)) with
            | true =>
              rw [hlg] at hbad
              obtain ⟨o1, o2⟩ := out_bad (s := s) (by rw [hbad]; decide)
              have HR : Hid (∀ x y, RParsed s w (.returned (.tuple #[Rt (.slice none 0 0) false, .int .i64 (115 : Nat)])) ((wr.setCell ⟨w.heap.size, 0, none⟩ x).setCell ⟨w.heap.size, 1, none⟩ y)) := hid fun x y => by
                unfold RParsed
                rw [o1, o2, hbad]
                exact ⟨_, rfl, World.ownsRow_nil _ _ _ _, (hb.setCell (Nat.le_refl _) _).setCell (Nat.le_refl _) _⟩
              clear hlast hbad hout hslash hfin hlg o1 o2 own hb
              go_wp2_with fail
              exact bodyPost_ret (v := .tuple #[Rt (.slice none 0 0) false, .int .i64 (115 : Nat)]) (by simp [results, Tryd.results28, go_sem, p1, p2]) rfl (HR.out _ _)
            | false =>
              rw [hlg] at hbad
              have hb0 : bad s = 0 := hbad
              have ho := hout hb0
              have hsl := hslash hb0
              have HO := hid own
              have HB := hid hb
              have HOUT := hid ho
              have HSL := hid hsl
              have HB0 := hid hb0
              clear hlast hbad hout hslash hfin hlg own hb ho hsl hb0
              have HR : Hid (∀ (b : Bool) x y z, slash s = b → RParsed s w (.returned (.tuple #[Rt (.slice va ps.length vc) b, .int .i64 (0 : Nat)])) (((wr.setCell ⟨w.heap.size + 1, 1, none⟩ x).setCell ⟨w.heap.size, 0, none⟩ y).setCell ⟨w.heap.size, 1, none⟩ z)) := hid fun b x y z hs => by
                unfold RParsed
                rw [hs, HB0.out, HOUT.out]
                refine ⟨_, rfl, ownsRow_base (kept_set (kept_set (kept_set HO.out (by omega) _ _) (by omega) _ _) (by omega) _ _) (by omega), ((HB.out.setCell (Nat.le_succ _) _).setCell (Nat.le_refl _) _).setCell (Nat.le_refl _) _⟩
              by_cases hn : ps.length = 0
              · have hsf : slash s = false := by rw [HSL.out, hn]; rfl
                have HSF := hid hsf
                rw [hn] at HR q1
                clear hsf HSL HO HB HOUT HB0 hn
                go_wp2_with fail
                exact bodyPost_ret (v := .tuple #[Rt (.slice va 0 vc) false, .int .i64 (0 : Nat)]) (by simp [results, Tryd.results28, go_sem, p1, p2]) rfl (HR.out _ _ _ _ HSF.out)
              · have hn0 : 0 < ps.length := by omega
                have hnd : decide ((0 : Int) < (ps.length : Int)) = true := decide_eq_true (by omega)
                have hss : slash s = decide (s[s.size - 1]'(by omega) = 47) := by rw [HSL.out, decide_eq_true hn0, Bool.true_and]
                have HSS := hid hss
                have f1 : IntKind.i64.wrap ((s.size : Int) - 1) = (s.size : Int) - 1 := by rw [IntKind.wrap_i64]; omega
                clear hss HSL HO HB HOUT HB0 hn
                have HQ := hid (show slash s = (((s[s.size - 1]'(by omega)).toNat : Int) == 47) by
                  rw [HSS.out, Bool.eq_iff_iff, decide_eq_true_eq, beq_iff_eq]
                  refine ⟨fun h => by rw [h]; rfl, fun h => UInt8.toNat_inj.1 (by show _ = 47; omega)⟩)
                clear HSS
                go_wp2_with fail
                exact bodyPost_ret (v := .tuple #[Rt (.slice va ps.length vc) (((s[s.size - 1]'(by omega)).toNat : Int) == 47), .int .i64 (0 : Nat)]) (by simp [results, Tryd.results28, go_sem, p1, p2]) rfl (HR.out _ _ _ _ HQ.out)
      · have hb : bad s = 114 := by
          unfold bad Path.bad
          rw [if_neg (by rw [HCL.out]; simp), if_neg (by rw [HL.out]; omega), if_pos]
          rw [HCL.out] at hgd ⊢
          by_cases h1 : c = 47
          · exact .inr (Classical.byContradiction fun h2 => hgd ⟨h1, h2⟩)
          · exact .inl (fun h2 => h1 (Option.some.inj h2))
        obtain ⟨o1, o2⟩ := out_bad (s := s) (by omega)
        have hR : RParsed s w (.returned (.tuple #[Rt (.slice none 0 0) false, .int .i64 (114 : Nat)])) (w.alloc RR) := by
          unfold RParsed
          rw [o1, o2, hb]
          exact ⟨_, rfl, World.ownsRow_nil _ _ _ _, bx⟩
        have HR := hid hR
        clear hb o1 o2 hR
        by_cases hc47 : c = 47
        · have hq : (((s[0]'h0).toNat : Int) != 47) = false := by rw [hx, hc47]; decide
          have hz : (0 : UInt8) ∈ s.data.toList := Classical.byContradiction fun h2 => hgd ⟨hc47, h2⟩
          rw [decide_eq_true hz]
          clear hx hz hc47 hgd
          go_wp2_with fail
          exact bodyPost_ret (v := .tuple #[Rt (.slice none 0 0) false, .int .i64 (114 : Nat)]) (by simp [results, Tryd.results28, go_sem]) rfl HR.out
        · have hq : (((s[0]'h0).toNat : Int) != 47) = true := by
            rw [hx, bne_iff_ne]
            intro e
            exact hc47 (UInt8.toNat_inj.1 (by show c.toNat = 47; omega))
          clear hx hc47 hgd
          go_wp2_with fail
          exact bodyPost_ret (v := .tuple #[Rt (.slice none 0 0) false, .int .i64 (114 : Nat)]) (by simp [results, Tryd.results28, go_sem]) rfl HR.out
theorem rparse_w (s : ByteArray) (w : World) (h63 : s.size ≤ 9223372036854775807) : Calls Tryd.prog 28 #[.string s] w (RParsed s w) := by
  rcases Nat.eq_zero_or_pos s.size with h0 | h0
  · refine rparse_empty s w ?_
    have : s.data.size = 0 := h0
    cases s with
    | mk d => exact congrArg ByteArray.mk (Array.eq_empty_of_size_eq_zero this)
  · rcases Nat.lt_or_ge 256 s.size with h | h
    · exact rparse_long s w h h63
    · exact rparse_rest s w h0 h
end Go.Proofs.YtagbnacffiagcaaDoor.PathW
