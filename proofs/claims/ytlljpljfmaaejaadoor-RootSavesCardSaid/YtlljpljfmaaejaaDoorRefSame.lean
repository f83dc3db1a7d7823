/- The walks of breviaryref.SameRef and SameRefs. -/
import Derived.Test.YtlljpljfmaaejaaDoorRefs
import Derived.Deep.RegionHeld3
namespace Go.Proofs.YtlljpljfmaaejaaDoor.RefsW
open Go Go.RowKit Go.Proofs.YtlljpljfmaaejaaDoor.Mem
set_option linter.unusedVariables false
set_option maxRecDepth 100000

abbrev Rv2 (x : Int × Nat) : Value := .agg #[.int .i64 x.1, .int .u32 (x.2 : Int)]
theorem ref_w (x y : Int × Nat) (w : World) : Calls Tryd.prog 124 #[Rv2 x, Rv2 y] w fun e w' => e = .returned (.bool (decide (x = y))) ∧ Below w.heap.size w w' := by
  have b1 := (Below.refl w.heap.size w).alloc (Nat.le_refl _) (.cells #[.int .i64 x.1, .int .u32 (x.2 : Int)] 68)
  have b2 := b1.alloc (by simp) (.cells #[.int .i64 y.1, .int .u32 (y.2 : Int)] 68)
  obtain ⟨x1, x2⟩ := x
  obtain ⟨y1, y2⟩ := y
  simp only at b1 b2 ⊢
  have h2 : ((x2 : Int) == (y2 : Int)) = decide (x2 = y2) := by rw [Bool.eq_iff_iff, beq_iff_eq, decide_eq_true_eq]; omega
  by_cases h : x1 = y1
  · subst h
    have HH := hid h2
    clear h2
    have hd : decide ((x1, x2) = (x1, y2)) = ((x2 : Int) == (y2 : Int)) := by rw [HH.out]; simp
    rw [hd]
    clear hd
    go_enter Tryd.func124, Tryd.ntmps124
    go_wp2
    go_ret
    exact ⟨ret_bool rfl, b2⟩
  · have h1 : (x1 == y1) = false := by rw [beq_eq_false_iff_ne]; exact h
    have hd : decide ((x1, x2) = (y1, y2)) = false := by rw [decide_eq_false_iff_not]; intro e; cases e; exact h rfl
    rw [hd]
    go_enter Tryd.func124, Tryd.ntmps124
    go_wp2
    go_ret
    exact ⟨ret_bool rfl, b2⟩

theorem take_ref {rs : List (Int × Nat)} {k : Nat} (h : k < rs.length) : rs.take (k + 1) = rs.take k ++ [rs[k]] := by rw [List.take_succ_eq_append_getElem h]
theorem refs_all {l m : List (Int × Nat)} {k : Nat} (hl : k = l.length) (hm : k = m.length) (h : l.take k = m.take k) : l = m := by
  rwa [List.take_of_length_le (by omega), List.take_of_length_le (by omega)] at h
set_option maxHeartbeats 1600000 in
theorem refs_w (a : Option Addr) (n cap : Nat) (l : List (Int × Nat)) (b : Option Addr) (m cap' : Nat) (l' : List (Int × Nat)) (w : World) (h0 : Refs w a n cap l) (h1 : Refs w b m cap' l') :
    Calls Tryd.prog 110 #[.slice a n cap, .slice b m cap'] w fun e w' => e = .returned (.bool (decide (l = l'))) ∧ Below w.heap.size w w' := by
  have HL0 := hid h0.len
  have HL1 := hid h1.len
  obtain ⟨c1, c2⟩ := h0.bound
  obtain ⟨c3, c4⟩ := h1.bound
  by_cases hn : n = m
  · subst hn
    go_enter Tryd.func110, Tryd.ntmps110
    go_wp2
    go_loopw [5] (fun i wr => ∃ k : Nat, k ≤ n ∧ i = .int .i64 k ∧ l.take k = l'.take k ∧ Below w.heap.size w wr) (fun i _ => n - (intOf i).toNat)
    case atStart => exact ⟨0, by omega, rfl, by simp, Below.refl _ _⟩
    case round =>
      obtain ⟨k, hk, rfl, hT, hb⟩ := hrel
      have HT := hid hT
      clear hT
      by_cases hlt : k < n
      · have hkl : k < l.length := by rw [HL0.out]; exact hlt
        have hkl' : k < l'.length := by rw [HL1.out]; exact hlt
        obtain ⟨b0, o0, rfl, hc0, hd0⟩ := (h0.below hb).at hkl
        obtain ⟨b1, o1, rfl, hc1, hd1⟩ := (h1.below hb).at hkl'
        have HS0 := hid (take_ref hkl)
        have HS1 := hid (take_ref hkl')
        have HE0 := hid (List.getElem?_eq_getElem hkl)
        have HE1 := hid (List.getElem?_eq_getElem hkl')
        generalize l[k] = x at hc0 hd0 HS0 HE0
        generalize l'[k] = y at hc1 hd1 HS1 HE1
        clear h0 h1
        go_wp2_with fail
        go_region_held3 (fun w' => w'.cell? ⟨b0, o0 + k * 2, none⟩ = some (.int .i64 x.1) ∧ w'.cell? ⟨b0, o0 + k * 2 + 1, none⟩ = some (.int .u32 (x.2 : Int)) ∧ w'.cell? ⟨b1, o1 + k * 2, none⟩ = some (.int .i64 y.1) ∧ w'.cell? ⟨b1, o1 + k * 2 + 1, none⟩ = some (.int .u32 (y.2 : Int))) (first | exact ⟨hc0, hd0, hc1, hd1⟩ | exact ⟨kept hb2 hc0, kept hb2 hd0, kept hb2 hc1, kept hb2 hd1⟩ | go_keep)
          ((go_at_call 124; refine (ref_w x y _).mono ?_; rintro e w2 ⟨rfl, hb2⟩))
        have hbb := hb.drew.trans (hb2.mono hb.size)
        clear hb2 hc0 hd0 hc1 hd1 hb
        by_cases hxy : x = y
        · rw [decide_eq_true hxy]
          have HX := hid hxy
          clear hxy
          go_wp2_with fail
          go_roundw
          case rel => exact ⟨k + 1, by omega, by go_num, by rw [HS0.out, HS1.out, HT.out, HX.out], hbb⟩
          case measure => simp [intOf]; omega
        · rw [decide_eq_false hxy]
          have HX := hid hxy
          clear hxy
          go_wp2_with fail
          go_ret
          refine ⟨ret_bool ?_, hbb⟩
          simp only [decide_eq_false_iff_not, Bool.false_eq, decide_eq_false_iff_not]
          intro he
          have h2 := HE0.out
          rw [he, HE1.out] at h2
          exact HX.out (Option.some.inj h2).symm
      · obtain rfl : k = n := by omega
        have he : l = l' := refs_all HL0.out.symm HL1.out.symm HT.out
        go_wp2
        go_ret
        exact ⟨ret_bool (by simp [he]), hb⟩
  · have hne : ((n : Int) != (m : Int)) = true := by rw [bne_iff_ne]; omega
    go_enter Tryd.func110, Tryd.ntmps110
    go_wp2
    go_ret
    exact ⟨ret_bool (by simp; intro h; exact hn (by rw [← HL0.out, ← HL1.out, h])), Below.refl _ _⟩
end Go.Proofs.YtlljpljfmaaejaaDoor.RefsW
