/- The walk of RecSays. -/
import Derived.Test.YtdgbgdkfoeoppaaDoorRecAll
namespace Go.Proofs.YtdgbgdkfoeoppaaDoor.recSays
open Go Go.RowKit Go.Proofs.YtdgbgdkfoeoppaaDoor.Mem Go.Proofs.YtdgbgdkfoeoppaaDoor.RefW Go.Proofs.YtdgbgdkfoeoppaaDoor.Text Go.Proofs.YtdgbgdkfoeoppaaDoor.RecW
set_option linter.unusedVariables false
set_option maxRecDepth 100000

set_option maxHeartbeats 1600000 in
theorem long (k n i : Int) (s : ByteArray) (a : Option Addr) (m cap : Nat) (w : World) (h : 60 < m ∨ 60 < s.size) :
    Calls Tryd.prog 7 #[P k n i s, .slice a m cap] w fun e w' => e = .returned (.bool true) ∧ Below w.heap.size w w' := by
  by_cases hm : 60 < m
  case' pos => have d1 : decide ((60 : Int) < (m : Int)) = true := by rw [decide_eq_true_eq]; omega
  case' neg =>
    have d1 : decide ((60 : Int) < (m : Int)) = false := by rw [decide_eq_false_iff_not]; omega
    have d2 : decide ((60 : Int) < (s.size : Int)) = true := by rw [decide_eq_true_eq]; omega
  all_goals
    clear hm h
    go_enter Tryd.func7, Tryd.ntmps7
    go_wp2_with fail
    refine (first_w _).mono ?_
    rintro e w1 ⟨rfl, hb1⟩
    obtain ⟨p0, p1, p2, p3⟩ := new4 w (.int .i64 k) (.int .i64 n) (.int .i64 i) (.string s) 43
    replace p3 := kept hb1 p3
    have c := below_put (Below.refl _ _) (Nat.le_refl _) _ hb1
    go_wp2_with fail
    go_ret
    exact ⟨rfl, c⟩

set_option maxHeartbeats 3200000 in
theorem good (k n i : Int) (s : ByteArray) (a : Option Addr) (m cap : Nat) (l : List Nat) (bs : List Addr) (w : World) (hB : SeeW.Bs w bs) (hl : Nums .u8 w a m cap l) (hx : ∀ x ∈ l, x < 256) (hm : m ≤ 60) (hs : s.size ≤ 60) :
    Calls Tryd.prog 7 #[P k n i s, .slice a m cap] w fun e w' => e = .returned (.bool true) ∧ Below w.heap.size w w' := by
  have d1 : decide ((60 : Int) < (m : Int)) = false := by rw [decide_eq_false_iff_not]; omega
  have d2 : decide ((60 : Int) < (s.size : Int)) = false := by rw [decide_eq_false_iff_not]; omega
  have ck := fun w hB => key_all k n i s bs w hB
  have cr := fun w => rkey_all k n i s w
  have cq := fun w hB h => read_w a m cap l bs w hB h hx (by omega)
  have ct := fun w h => rread_w a m cap l w h hx (by omega)
  generalize keyA k n i s = K at *
  generalize readL l = R at *
  obtain ⟨kc, kl⟩ := K
  obtain ⟨c', k', n', i', s'⟩ := R
  dsimp only at ck cr cq ct
  clear hx
  go_enter Tryd.func7, Tryd.ntmps7
  go_wp2_with fail
  refine (first_w _).mono ?_
  rintro e w1 ⟨rfl, hb1⟩
  obtain ⟨p0, p1, p2, p3⟩ := new4 w (.int .i64 k) (.int .i64 n) (.int .i64 i) (.string s) 43
  replace p0 := kept hb1 p0
  replace p1 := kept hb1 p1
  replace p2 := kept hb1 p2
  replace p3 := kept hb1 p3
  have c := below_put (Below.refl _ _) (Nat.le_refl _) _ hb1
  clear hb1
  replace hB := hB.below c
  replace hl := hl.below c
  go_wp2_with fail
  refine (ck _ hB).mono ?_
  rintro e w2 ⟨⟨xa, xm, xc, E, rfl, hX, hE⟩, hb2⟩
  replace p0 := kept hb2 p0
  replace p1 := kept hb2 p1
  replace p2 := kept hb2 p2
  replace p3 := kept hb2 p3
  replace hB := hB.below hb2
  replace hl := hl.below hb2
  replace c := c.trans (hb2.mono c.size)
  clear hb2
  go_wp2_with fail
  refine (cr _).mono ?_
  rintro e w3 ⟨⟨ya, ym, yc, rfl, hY⟩, hb3⟩
  replace hX := hX.below hb3
  replace hB := hB.below hb3
  replace hl := hl.below hb3
  replace c := c.trans (hb3.mono c.size)
  clear hb3
  go_wp2_with fail
  refine (cq _ hB hl).mono ?_
  rintro e w4 ⟨⟨F, rfl, hF⟩, hb4⟩
  replace hX := hX.below hb4
  replace hY := hY.below hb4
  replace hB := hB.below hb4
  replace hl := hl.below hb4
  replace c := c.trans (hb4.mono c.size)
  clear hb4
  have z4 := c.size
  obtain ⟨q0, q1, q2, q3⟩ := new4 w4 (.int .i64 (k' : Int)) (.int .i64 (n' : Int)) (.int .i64 (i' : Int)) (.string (ofTxt s')) 43
  have hN := (Below.refl w4.heap.size w4).alloc (Nat.le_refl _) (.cells #[.int .i64 (k' : Int), .int .i64 (n' : Int), .int .i64 (i' : Int), .string (ofTxt s')] 43)
  go_wp2_with fail
  refine (ct _ (hl.below hN)).mono ?_
  rintro e w5 ⟨rfl, hb5⟩
  replace q0 := kept hb5 q0
  replace q1 := kept hb5 q1
  replace q2 := kept hb5 q2
  replace q3 := kept hb5 q3
  have hM := below_put (Below.refl _ _) (Nat.le_refl _) _ hb5
  replace hX := hX.below hM
  replace hY := hY.below hM
  replace hB := hB.below hM
  replace c := c.trans (hM.mono z4)
  clear hb5 hN hM z4
  go_wp2_with fail
  refine (is_all bs _ hB kc E hE _).mono ?_
  rintro e w6 ⟨rfl, hb6⟩
  replace q0 := kept hb6 q0
  replace q1 := kept hb6 q1
  replace q2 := kept hb6 q2
  replace q3 := kept hb6 q3
  replace hX := hX.below hb6
  replace hY := hY.below hb6
  replace hB := hB.below hb6
  replace c := c.trans (hb6.mono c.size)
  clear hb6
  rw [show ((kc : Int) == (kc : Int)) = true by simp]
  go_wp2_with fail
  refine (RefW.same_w xa xm xc kl ya ym yc kl _ hX hY).mono ?_
  rintro e w7 ⟨rfl, hb7⟩
  replace q0 := kept hb7 q0
  replace q1 := kept hb7 q1
  replace q2 := kept hb7 q2
  replace q3 := kept hb7 q3
  replace hB := hB.below hb7
  replace c := c.trans (hb7.mono c.size)
  clear hb7
  rw [show decide (kl = kl) = true by simp]
  go_wp2_with fail
  refine (is_all bs _ hB c' F hF _).mono ?_
  rintro e w8 ⟨rfl, hb8⟩
  replace q0 := kept hb8 q0
  replace q1 := kept hb8 q1
  replace q2 := kept hb8 q2
  replace q3 := kept hb8 q3
  replace c := c.trans (hb8.mono c.size)
  clear hb8
  rw [show ((c' : Int) == (c' : Int)) = true by simp]
  go_wp2_with fail
  go_ret
  exact ⟨ret_bool (by simp), c⟩

theorem walk (a00 a01 a02 : Int) (a03 : ByteArray) (a1 : Option Addr) (len1 cap1 : Nat) (z1 : List Int) (w : World) (hA : Err.All w SeeW.gl) (w00 : (Lit.int .i64 a00).wf = true) (w01 : (Lit.int .i64 a01).wf = true) (w02 : (Lit.int .i64 a02).wf = true) (w03 : a03.size ≤ maxLen) (w1 : IsRow .u8 w a1 len1 cap1 z1) :
    Calls Tryd.prog 7 #[.agg #[.int .i64 a00, .int .i64 a01, .int .i64 a02, .string a03], .slice a1 len1 cap1] w fun e w' => e = .returned (.bool true) ∧ Below w.heap.size w w' := by
  obtain ⟨bs, hB⟩ := SeeW.bs_of hA
  obtain ⟨l, hl, hx⟩ := nums_of rfl w1
  by_cases h : 60 < len1 ∨ 60 < a03.size
  · exact long a00 a01 a02 a03 a1 len1 cap1 w h
  · exact good a00 a01 a02 a03 a1 len1 cap1 l bs w hB hl (fun x m => Nat.lt_of_lt_of_le (hx x m) (by decide)) (by omega) (by omega)
end Go.Proofs.YtdgbgdkfoeoppaaDoor.recSays
