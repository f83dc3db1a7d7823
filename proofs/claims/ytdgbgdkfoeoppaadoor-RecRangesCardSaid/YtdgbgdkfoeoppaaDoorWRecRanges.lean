/- The walk of RecRanges. -/
import Derived.Test.YtdgbgdkfoeoppaaDoorRecRangesA
import Derived.Deep.CutRange
namespace Go.Proofs.YtdgbgdkfoeoppaaDoor.recRanges
open Go Go.RowKit Go.Proofs.YtdgbgdkfoeoppaaDoor.Mem Go.Proofs.YtdgbgdkfoeoppaaDoor.RefW Go.Proofs.YtdgbgdkfoeoppaaDoor.Text Go.Proofs.YtdgbgdkfoeoppaaDoor.RecW
set_option linter.unusedVariables false
set_option maxRecDepth 100000

set_option maxHeartbeats 6400000 in
theorem good (k n i : Nat) (s : ByteArray) (bs : List Addr) (w : World) (hB : SeeW.Bs w bs) (h : ¬ Bad k n i s) (h1 : s.size ≤ 24) :
    Calls Tryd.prog 8 #[.int .i64 k, .int .i64 n, .int .i64 i, .string s] w fun e w' => e = .returned (.bool true) ∧ Below w.heap.size w w' := by
  have d1 : decide ((40 : Int) < (s.size : Int)) = false := by rw [decide_eq_false_iff_not]; omega
  have d2 : decide ((24 : Int) < (s.size : Int)) = false := by rw [decide_eq_false_iff_not]; omega
  have ck := fun w => key_good k n i s w h h1
  have HH := hid h
  have hk4 : k ≤ 4 := by unfold Bad at h; omega
  have hk1 : 1 ≤ k := by unfold Bad at h; omega
  have hn : n < 16777216 := by unfold Bad at h; omega
  have hL : (keyL k n i (txt s)).length = if k = 4 then 7 else 4 + s.size := by
    unfold Bad at h
    by_cases e : k = 4
    · have hz : s.size = 0 := by omega
      rw [if_pos e]; simp [keyL, b3, Text.length, e, hz]
    · rw [if_neg e]; simp [keyL, b3, e, Text.length]; omega
  have hX := keyL_lt k n i s (by omega)
  have r3 := keyL_three k n i (txt s)
  have r28 := keyL_more k n i (txt s) hk1 hk4
  have ha := and_255 n hn
  have hm : n % 256 < 256 := Nat.mod_lt _ (by decide)
  have q0 : (keyL k n i (txt s))[0]? = some k := rfl
  have q3 : (keyL k n i (txt s))[3]? = some (n % 256) := rfl
  clear h
  generalize keyL k n i (txt s) = L at *
  have hlen : 4 ≤ L.length := by rw [hL]; split <;> omega
  by_cases e4 : k = 4
  case' pos =>
    have hi : ((k : Int) == 4) = true := by simp; omega
    rw [if_pos e4] at hL
    have hW : ((L.length : Int) != 7) = false := by rw [hL]; rfl
  case' neg =>
    have hi : ((k : Int) == 4) = false := by simp; omega
    rw [if_neg e4] at hL
    have hW : ((L.length : Int) != 4 + (s.size : Int)) = false := by rw [hL]; simp
  all_goals
    have hlen' : L.length ≤ 28 := by omega
    clear hL e4
    go_enter Tryd.func8, Tryd.ntmps8
    go_wp2_with fail
    refine (first_w _).mono ?_
    rintro e w1 ⟨rfl, hb1⟩
    replace hB := hB.below hb1
    have z1 := hb1.size
    go_wp2_with fail
    refine (ck _).mono ?_
    rintro e w2 ⟨v, rfl, hv, hb2⟩
    obtain ⟨a, cap, rfl, hr⟩ := ownsRow_slice hv
    obtain ⟨g, rfl⟩ := own_some hv (by omega)
    have hr : Nums .u8 w2 (some ⟨g, 0, none⟩) L.length cap L := hr
    replace hB := hB.below hb2
    have c := hb1.trans (hb2.mono z1)
    obtain ⟨cp1, cp2⟩ := hr.bound
    have c0 := Row.cell hr (j := 0) (u := .int .u8 (k : Int)) (by simp [nums, q0])
    have c3 := Row.cell hr (j := 3) (u := .int .u8 ((n % 256 : Nat) : Int)) (by simp [nums, q3])
    clear hb1 hb2 hv ck
    go_upto_region 5 with fail
    go_cut [12] from 38 to 75 (fun v wx => v = .bool true ∧ wx = w2)
    case first =>
      have h := HH.out
      unfold Bad at h
      have b1 : decide (1 ≤ (k : Int)) = true := by rw [decide_eq_true_eq]; omega
      have b2 : decide ((k : Int) ≤ 4) = true := by rw [decide_eq_true_eq]; omega
      have b3 : decide (0 ≤ (n : Int)) = true := by rw [decide_eq_true_eq]; omega
      have b4 : decide ((n : Int) < 16777216) = true := by rw [decide_eq_true_eq]; omega
      have b5 : decide (0 ≤ (i : Int)) = true := by rw [decide_eq_true_eq]; omega
      have b6 : decide ((i : Int) < 16777216) = true := by rw [decide_eq_true_eq]; omega
      have o1 : ((i : Int) == 0) = true ∨ (((i : Int) == 0) = false ∧ ((k : Int) == 4) = true) := by
        by_cases e : i = 0
        · exact .inl (by simp [e])
        · exact .inr ⟨by simp; omega, by simp; omega⟩
      have o2 : s.toList.isEmpty = true ∨ (s.toList.isEmpty = false ∧ ((k : Int) == 3) = true) := by
        by_cases e : s.size = 0
        · exact .inl (empty_of e)
        · exact .inr ⟨some_of e, by simp; omega⟩
      clear h hi hW
      rcases o1 with o1 | ⟨o1, o1'⟩ <;> rcases o2 with o2 | ⟨o2, o2'⟩
      all_goals (go_wp2_with fail; go_meet; exact ⟨rfl, rfl⟩)
    case rest =>
      obtain ⟨rfl, rfl⟩ := hcut
      go_wp2_with fail
      refine (read_w _ 3 cap (L.take 3) bs _ hB (hr.take (m := 3) (by omega)) (fun y hy => hX y (List.mem_of_mem_take hy)) (by decide)).mono ?_
      rw [r3]
      rintro e w3 ⟨⟨F1, rfl, hF1⟩, hb3⟩
      have hN3 := (Below.refl w3.heap.size w3).alloc (Nat.le_refl _) (.cells #[.int .i64 0, .int .i64 0, .int .i64 0, .string (ofTxt [])] 43)
      replace hr := (hr.below hb3).below hN3
      replace hB := (hB.below hb3).below hN3
      replace c := c.trans (hb3.mono c.size)
      replace c := c.trans (hN3.mono c.size)
      clear hb3 hN3
      go_wp2_with fail
      refine (bytes_w _ L.length cap L _ hr (by omega)).mono ?_
      rintro e w4 ⟨v4, rfl, o4, hb4⟩
      have z4 := hb4.size
      go_wp2_with (at_builtin; go_must (refine wpList_zeros rfl _ _ rfl _ v4 L.length L rfl o4 25 (by decide) rfl (by omega) z4 ?_); intro v5 w5 o5 hb5)
      replace hb5 := hb4.trans hb5
      replace hB := hB.below hb5
      replace c := c.trans (hb5.mono c.size)
      obtain ⟨a5, cap5, rfl, hr5⟩ := ownsRow_slice o5
      clear hb4 hb5 o4 o5 hr z4
      refine (read_w a5 (L.length + 25) cap5 (L ++ List.replicate 25 0) bs _ hB hr5 (by
        intro y hy
        rcases List.mem_append.1 hy with hy | hy
        · exact hX y hy
        · rw [List.eq_of_mem_replicate hy]; decide) (by omega)).mono ?_
      rw [r28]
      rintro e w6 ⟨⟨F2, rfl, hF2⟩, hb6⟩
      have hN6 := (Below.refl w6.heap.size w6).alloc (Nat.le_refl _) (.cells #[.int .i64 0, .int .i64 0, .int .i64 0, .string (ofTxt [])] 43)
      replace hB := (hB.below hb6).below hN6
      replace c := c.trans (hb6.mono c.size)
      replace c := c.trans (hN6.mono c.size)
      clear hb6 hN6 hr5 r3 r28 q0 q3 hX ha hm HH hW hi hlen hlen' cp1 cp2 c0 c3
      go_wp2_with fail
      have hF9 : Nums .u8 ((w6.alloc (.cells #[.int .i64 0, .int .i64 0, .int .i64 0, .string (ofTxt [])] 43)).alloc (.cells #[.int .u8 9, .int .u8 0, .int .u8 0, .int .u8 0] 5)) (some ⟨w6.heap.size + 1, 0, none⟩) 4 4 [9, 0, 0, 0] := by
        have := Row.fresh (w6.alloc (.cells #[.int .i64 0, .int .i64 0, .int .i64 0, .string (ofTxt [])] 43)) #[.int .u8 9, .int .u8 0, .int .u8 0, .int .u8 0] 5 (0, 0) 4 rfl (by decide)
        rw [show (w6.alloc (.cells #[.int .i64 0, .int .i64 0, .int .i64 0, .string (ofTxt [])] 43)).heap.size = w6.heap.size + 1 by simp] at this
        exact this
      have hN7 : Below (w6.alloc (.cells #[.int .i64 0, .int .i64 0, .int .i64 0, .string (ofTxt [])] 43)).heap.size (w6.alloc (.cells #[.int .i64 0, .int .i64 0, .int .i64 0, .string (ofTxt [])] 43)) ((w6.alloc (.cells #[.int .i64 0, .int .i64 0, .int .i64 0, .string (ofTxt [])] 43)).alloc (.cells #[.int .u8 9, .int .u8 0, .int .u8 0, .int .u8 0] 5)) := (Below.refl _ _).alloc (Nat.le_refl _) _
      replace hB := hB.below hN7
      replace c := c.trans (hN7.mono c.size)
      refine (read_w _ 4 4 [9, 0, 0, 0] bs _ hB hF9 (by decide) (by decide)).mono ?_
      rw [show readL [9, 0, 0, 0] = (103, 0, 0, 0, []) from rfl]
      rintro e w8 ⟨⟨F3, rfl, hF3⟩, hb8⟩
      have hN8 := (Below.refl w8.heap.size w8).alloc (Nat.le_refl _) (.cells #[.int .i64 0, .int .i64 0, .int .i64 0, .string (ofTxt [])] 43)
      replace hB := (hB.below hb8).below hN8
      replace c := c.trans (hb8.mono c.size)
      replace c := c.trans (hN8.mono c.size)
      clear hb8 hN8 hN7 hF9
      go_wp2_with fail
      refine (is_all bs _ hB 101 F1 hF1 _).mono ?_
      rintro e w9 ⟨rfl, hb9⟩
      rw [show (((101 : Nat) : Int) == 101) = true by decide]
      replace hB := hB.below hb9
      replace c := c.trans (hb9.mono c.size)
      clear hb9
      go_wp2_with fail
      refine (is_all bs _ hB 102 F2 hF2 _).mono ?_
      rintro e w10 ⟨rfl, hb9⟩
      rw [show (((102 : Nat) : Int) == 102) = true by decide]
      replace hB := hB.below hb9
      replace c := c.trans (hb9.mono c.size)
      clear hb9
      go_wp2_with fail
      refine (is_all bs _ hB 103 F3 hF3 _).mono ?_
      rintro e w11 ⟨rfl, hb9⟩
      rw [show (((103 : Nat) : Int) == 103) = true by decide]
      replace c := c.trans (hb9.mono c.size)
      clear hb9
      go_wp2_with fail
      go_ret
      exact ⟨rfl, c⟩

theorem walk (a0 a1 a2 : Int) (a3 : ByteArray) (w : World) (hA : Err.All w SeeW.gl) (w0 : (Lit.int .i64 a0).wf = true) (w1 : (Lit.int .i64 a1).wf = true) (w2 : (Lit.int .i64 a2).wf = true) (w3 : a3.size ≤ maxLen) :
    Calls Tryd.prog 8 #[.int .i64 a0, .int .i64 a1, .int .i64 a2, .string a3] w fun e w' => e = .returned (.bool true) ∧ Below w.heap.size w w' := by
  obtain ⟨bs, hB⟩ := SeeW.bs_of hA
  by_cases h0 : 40 < a3.size
  · exact over a0 a1 a2 a3 w h0
  · by_cases h : Bad a0 a1 a2 a3
    · exact bad a0 a1 a2 a3 bs w hB h (by omega)
    · by_cases h1 : 24 < a3.size
      · exact longn a0 a1 a2 a3 bs w hB h h1 (by omega)
      · obtain ⟨e1, e2, e3⟩ := cast3 h
        have := good a0.toNat a1.toNat a2.toNat a3 bs w hB (by rw [e1, e2, e3]; exact h) (by omega)
        rw [e1, e2, e3] at this
        exact this
end Go.Proofs.YtdgbgdkfoeoppaaDoor.recRanges
