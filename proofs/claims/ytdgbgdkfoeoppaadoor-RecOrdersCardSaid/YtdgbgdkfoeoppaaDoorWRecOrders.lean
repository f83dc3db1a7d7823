/- The walk of RecOrders. -/
import Derived.Test.YtdgbgdkfoeoppaaDoorRecOrdersA
import Derived.Test.YtdgbgdkfoeoppaaDoorRecOrd
import Derived.Test.YtdgbgdkfoeoppaaDoorRecReadC
import Derived.Deep.CutRange
namespace Go.Proofs.YtdgbgdkfoeoppaaDoor.recOrders
open Go Go.RowKit Go.Proofs.YtdgbgdkfoeoppaaDoor.Mem Go.Proofs.YtdgbgdkfoeoppaaDoor.RefW Go.Proofs.YtdgbgdkfoeoppaaDoor.Text Go.Proofs.YtdgbgdkfoeoppaaDoor.RecW
set_option linter.unusedVariables false
set_option maxRecDepth 100000

theorem keyL_lt (k n i : Nat) (s : ByteArray) (hk : k < 256) : ∀ x ∈ keyL k n i (txt s), x < 256 := by
  intro x hx
  simp only [keyL, b3, List.mem_cons, List.mem_append, List.not_mem_nil, or_false] at hx
  rcases hx with rfl | (rfl | rfl | rfl) | hx | hx
  · exact hk
  · omega
  · omega
  · omega
  · split at hx
    · simp at hx; omega
    · simp at hx
  · exact Text.lt s x hx
set_option maxHeartbeats 6400000 in
theorem good (k n i : Nat) (s : ByteArray) (k' n' i' : Nat) (s' : ByteArray) (E0 E1 E2 : Addr) (w : World) (hA0 : Err.At w 2 E0) (hA1 : Err.At w 3 E1) (hA2 : Err.At w 0 E2)
    (hp : ¬ Bad k n i s) (hs : s.size ≤ 24) (hq : ¬ Bad k' n' i' s') (hs' : s'.size ≤ 24) :
    Calls Tryd.prog 15 #[P k n i s, P k' n' i' s'] w fun e w' => e = .returned (.bool true) ∧ Below w.heap.size w w' := by
  have ck := fun w => key_good k n i s w hp hs
  have cq := fun w => key_good k' n' i' s' w hq hs'
  have hL := keyL_lt k n i s (by unfold Bad at hp; omega)
  have hN : (keyL k n i (txt s)).length ≤ 1000 := by
    unfold keyL
    simp only [List.length_cons, List.length_append, b3, Text.length, List.length_nil]
    split <;> simp <;> omega
  have hback := keyL_back k n i s hp hs
  have hord := keyL_ahead k n i s k' n' i' s' hp hq
  have hles := lessA_eq k n i s k' n' i' s'
  have hT : Op.bytesLess s.toList s'.toList = RecW.lt (txt s) (txt s') := by rw [Lib.toList_data, Lib.toList_data, lt_txt]
  generalize keyL k n i (txt s) = x at *
  generalize keyL k' n' i' (txt s') = y at *
  obtain ⟨p0, p1, p2, p3⟩ := new4 w (.int .i64 (k : Int)) (.int .i64 (n : Int)) (.int .i64 (i : Int)) (.string s) 43
  obtain ⟨q0, q1, q2, q3⟩ := new4 (w.alloc (.cells #[.int .i64 (k : Int), .int .i64 (n : Int), .int .i64 (i : Int), .string s] 43)) (.int .i64 (k' : Int)) (.int .i64 (n' : Int)) (.int .i64 (i' : Int)) (.string s') 43
  replace p0 := cell?_alloc_old (.cells #[.int .i64 (k' : Int), .int .i64 (n' : Int), .int .i64 (i' : Int), .string s'] 43) p0
  replace p1 := cell?_alloc_old (.cells #[.int .i64 (k' : Int), .int .i64 (n' : Int), .int .i64 (i' : Int), .string s'] 43) p1
  replace p2 := cell?_alloc_old (.cells #[.int .i64 (k' : Int), .int .i64 (n' : Int), .int .i64 (i' : Int), .string s'] 43) p2
  replace p3 := cell?_alloc_old (.cells #[.int .i64 (k' : Int), .int .i64 (n' : Int), .int .i64 (i' : Int), .string s'] 43) p3
  have hz : (w.alloc (.cells #[.int .i64 (k : Int), .int .i64 (n : Int), .int .i64 (i : Int), .string s] 43)).heap.size = w.heap.size + 1 := by simp
  rw [hz] at q0 q1 q2 q3
  clear hz
  have c : Below w.heap.size w ((w.alloc (.cells #[.int .i64 (k : Int), .int .i64 (n : Int), .int .i64 (i : Int), .string s] 43)).alloc (.cells #[.int .i64 (k' : Int), .int .i64 (n' : Int), .int .i64 (i' : Int), .string s'] 43)) := ((Below.refl _ _).alloc (Nat.le_refl _) _).alloc (by simp) _
  go_enter Tryd.func15, Tryd.ntmps15
  go_wp2_with fail
  generalize (w.alloc (.cells #[.int .i64 (k : Int), .int .i64 (n : Int), .int .i64 (i : Int), .string s] 43)).alloc (.cells #[.int .i64 (k' : Int), .int .i64 (n' : Int), .int .i64 (i' : Int), .string s'] 43) = W at *
  refine (first_w _).mono ?_
  rintro e w1 ⟨rfl, hb1⟩
  replace p0 := kept hb1 p0
  replace p1 := kept hb1 p1
  replace p2 := kept hb1 p2
  replace p3 := kept hb1 p3
  replace q0 := kept hb1 q0
  replace q1 := kept hb1 q1
  replace q2 := kept hb1 q2
  replace q3 := kept hb1 q3
  replace c := c.trans (hb1.mono c.size)
  clear hb1
  go_wp2_with fail
  refine (ck _).mono ?_
  rintro e w2 ⟨v, rfl, hv, hb2⟩
  replace p0 := kept hb2 p0
  replace p1 := kept hb2 p1
  replace p2 := kept hb2 p2
  replace p3 := kept hb2 p3
  replace q0 := kept hb2 q0
  replace q1 := kept hb2 q1
  replace q2 := kept hb2 q2
  replace q3 := kept hb2 q3
  replace c := c.trans (hb2.mono c.size)
  obtain ⟨xa, xc, rfl, hX⟩ := ownsRow_slice hv
  have hX : Nums .u8 w2 xa x.length xc x := hX
  clear hb2 hv ck
  go_wp2_with fail
  refine (cq _).mono ?_
  rintro e w3 ⟨v, rfl, hv, hb3⟩
  replace p0 := kept hb3 p0
  replace p1 := kept hb3 p1
  replace p2 := kept hb3 p2
  replace p3 := kept hb3 p3
  replace q0 := kept hb3 q0
  replace q1 := kept hb3 q1
  replace q2 := kept hb3 q2
  replace q3 := kept hb3 q3
  replace c := c.trans (hb3.mono c.size)
  replace hX := hX.below hb3
  obtain ⟨ya, yc, rfl, hY⟩ := ownsRow_slice hv
  have hY : Nums .u8 w3 ya y.length yc y := hY
  clear hb3 hv cq
  go_wp2_with fail
  refine (read_c xa x.length xc x E0 E1 E2 _ (hA0.below c) (hA1.below c) (hA2.below c) hX hL hN).mono ?_
  rw [hback]
  dsimp only
  rintro e w4 ⟨⟨F, rfl, hF⟩, hb4⟩
  obtain rfl : F = .nilIface := by
    rcases hF with ⟨_, h⟩ | ⟨h, _⟩ | ⟨h, _⟩ | ⟨h, _⟩
    · exact h
    · exact absurd h (by decide)
    · exact absurd h (by decide)
    · exact absurd h (by decide)
  rw [of_txt]
  replace p0 := kept hb4 p0
  replace p1 := kept hb4 p1
  replace p2 := kept hb4 p2
  replace p3 := kept hb4 p3
  replace q0 := kept hb4 q0
  replace q1 := kept hb4 q1
  replace q2 := kept hb4 q2
  replace q3 := kept hb4 q3
  replace c := c.trans (hb4.mono c.size)
  replace hX := hX.below hb4
  replace hY := hY.below hb4
  clear hb4 hF hA0 hA1 hA2
  obtain ⟨r0, r1, r2, r3⟩ := new4 w4 (.int .i64 (k : Int)) (.int .i64 (n : Int)) (.int .i64 (i : Int)) (.string s) 43
  have hN4 := (Below.refl w4.heap.size w4).alloc (Nat.le_refl _) (.cells #[.int .i64 (k : Int), .int .i64 (n : Int), .int .i64 (i : Int), .string s] 43)
  replace p0 := kept hN4 p0
  replace p1 := kept hN4 p1
  replace p2 := kept hN4 p2
  replace p3 := kept hN4 p3
  replace q0 := kept hN4 q0
  replace q1 := kept hN4 q1
  replace q2 := kept hN4 q2
  replace q3 := kept hN4 q3
  replace c := c.trans (hN4.mono c.size)
  replace hX := hX.below hN4
  replace hY := hY.below hN4
  clear hN4
  go_upto_region 9 with fail
  generalize w4.alloc (.cells #[.int .i64 (k : Int), .int .i64 (n : Int), .int .i64 (i : Int), .string s] 43) = W4 at *
  go_cut [12] from 42 to 88 (fun v wx => v = .bool (aheadP k n i (txt s) k' n' i' (txt s')) ∧ wx = W4)
  case first =>
    clear hles hord hback r0 r1 r2 r3 hX hY
    rcases Nat.lt_trichotomy k k' with h | h | h
    · have f1 : decide ((k : Int) < (k' : Int)) = true := by rw [decide_eq_true_eq]; omega
      go_wp2_with fail
      go_meet
      refine ⟨congrArg Value.bool ?_, rfl⟩
      rw [Bool.eq_iff_iff]
      simp only [aheadP, Bool.or_eq_true, decide_eq_true_eq, Bool.and_eq_true, beq_iff_eq]
      by_cases hl : RecW.lt (txt s) (txt s') = true
      all_goals first | (simp [hl]; done) | (simp [hl]; omega) | omega
    · subst h
      rcases Nat.lt_trichotomy n n' with h | h | h
      · have f1 : decide ((n : Int) < (n' : Int)) = true := by rw [decide_eq_true_eq]; omega
        go_wp2_with fail
        go_meet
        refine ⟨congrArg Value.bool ?_, rfl⟩
        rw [Bool.eq_iff_iff]
        simp only [aheadP, Bool.or_eq_true, decide_eq_true_eq, Bool.and_eq_true, beq_iff_eq]
        by_cases hl : RecW.lt (txt s) (txt s') = true
        all_goals first | (simp [hl]; done) | (simp [hl]; omega) | omega
      · subst h
        rcases Nat.lt_trichotomy i i' with h | h | h
        · have f1 : decide ((i : Int) < (i' : Int)) = true := by rw [decide_eq_true_eq]; omega
          go_wp2_with fail
          go_meet
          refine ⟨congrArg Value.bool ?_, rfl⟩
          rw [Bool.eq_iff_iff]
          simp only [aheadP, Bool.or_eq_true, decide_eq_true_eq, Bool.and_eq_true, beq_iff_eq]
          by_cases hl : RecW.lt (txt s) (txt s') = true
          all_goals first | (simp [hl]; done) | (simp [hl]; omega) | omega
        · subst h
          go_wp2_with fail
          go_meet
          refine ⟨congrArg Value.bool ?_, rfl⟩
          rw [Bool.eq_iff_iff]
          simp only [aheadP, Bool.or_eq_true, decide_eq_true_eq, Bool.and_eq_true, beq_iff_eq]
          by_cases hl : RecW.lt (txt s) (txt s') = true
          all_goals first | (simp [hl]; done) | (simp [hl]; omega) | omega
        · have f1 : decide ((i : Int) < (i' : Int)) = false := by rw [decide_eq_false_iff_not]; omega
          have f2 : ((i : Int) == (i' : Int)) = false := by rw [beq_eq_false_iff_ne]; omega
          go_wp2_with fail
          go_meet
          refine ⟨congrArg Value.bool ?_, rfl⟩
          rw [Bool.eq_iff_iff]
          simp only [aheadP, Bool.or_eq_true, decide_eq_true_eq, Bool.and_eq_true, beq_iff_eq]
          by_cases hl : RecW.lt (txt s) (txt s') = true
          all_goals first | (simp [hl]; done) | (simp [hl]; omega) | omega
      · have f1 : decide ((n : Int) < (n' : Int)) = false := by rw [decide_eq_false_iff_not]; omega
        have f2 : ((n : Int) == (n' : Int)) = false := by rw [beq_eq_false_iff_ne]; omega
        go_wp2_with fail
        go_meet
        refine ⟨congrArg Value.bool ?_, rfl⟩
        rw [Bool.eq_iff_iff]
        simp only [aheadP, Bool.or_eq_true, decide_eq_true_eq, Bool.and_eq_true, beq_iff_eq]
        by_cases hl : RecW.lt (txt s) (txt s') = true
        all_goals first | (simp [hl]; done) | (simp [hl]; omega) | omega
    · have f1 : decide ((k : Int) < (k' : Int)) = false := by rw [decide_eq_false_iff_not]; omega
      have f2 : ((k : Int) == (k' : Int)) = false := by rw [beq_eq_false_iff_ne]; omega
      go_wp2_with fail
      go_meet
      refine ⟨congrArg Value.bool ?_, rfl⟩
      rw [Bool.eq_iff_iff]
      simp only [aheadP, Bool.or_eq_true, decide_eq_true_eq, Bool.and_eq_true, beq_iff_eq]
      by_cases hl : RecW.lt (txt s) (txt s') = true
      all_goals first | (simp [hl]; done) | (simp [hl]; omega) | omega
  case rest =>
    obtain ⟨rfl, rfl⟩ := hcut
    generalize aheadP k n i (txt s) k' n' i' (txt s') = A at *
    go_wp2_with fail
    refine (less_w k n i s k' n' i' s' _).mono ?_
    rw [hles]
    rintro e w5 ⟨rfl, hb5⟩
    replace c := c.trans (hb5.mono c.size)
    replace hX := hX.below hb5
    replace hY := hY.below hb5
    have hAA : (A == A) = true := by simp
    clear hb5
    go_wp2_with fail
    refine (ahead_w xa x.length xc x ya y.length yc y _ hX hY).mono ?_
    rw [hord]
    rintro e w6 ⟨rfl, hb6⟩
    replace c := c.trans (hb6.mono c.size)
    go_wp2_with fail
    go_ret
    exact ⟨ret_bool (by simp), c⟩

theorem walk (a00 a01 a02 : Int) (a03 : ByteArray) (a10 a11 a12 : Int) (a13 : ByteArray) (w : World) (hA : Err.All w [2, 3, 0, 1])
    (w00 : (Lit.int .i64 a00).wf = true) (w01 : (Lit.int .i64 a01).wf = true) (w02 : (Lit.int .i64 a02).wf = true) (w03 : a03.size ≤ maxLen) (w10 : (Lit.int .i64 a10).wf = true) (w11 : (Lit.int .i64 a11).wf = true) (w12 : (Lit.int .i64 a12).wf = true) (w13 : a13.size ≤ maxLen) :
    Calls Tryd.prog 15 #[.agg #[.int .i64 a00, .int .i64 a01, .int .i64 a02, .string a03], .agg #[.int .i64 a10, .int .i64 a11, .int .i64 a12, .string a13]] w fun e w' => e = .returned (.bool true) ∧ Below w.heap.size w w' := by
  obtain ⟨E0, h0⟩ := hA.at 0 _ rfl
  obtain ⟨E1, h1⟩ := hA.at 1 _ rfl
  obtain ⟨E2, h2⟩ := hA.at 2 _ rfl
  obtain ⟨E3, h3⟩ := hA.at 3 _ rfl
  by_cases hp : Bad a00 a01 a02 a03 ∨ 24 < a03.size
  · exact p_no a00 a01 a02 a03 a10 a11 a12 a13 E2 E3 w ⟨h2, h3⟩ hp
  · have hp1 : ¬ Bad a00 a01 a02 a03 := fun x => hp (.inl x)
    obtain ⟨e1, e2, e3⟩ := cast3 hp1
    by_cases hq : Bad a10 a11 a12 a13 ∨ 24 < a13.size
    · have := q_no a00.toNat a01.toNat a02.toNat a03 a10 a11 a12 a13 E2 E3 w ⟨h2, h3⟩ (by rw [e1, e2, e3]; exact hp1) (by omega) hq
      rw [e1, e2, e3] at this
      exact this
    · have hq1 : ¬ Bad a10 a11 a12 a13 := fun x => hq (.inl x)
      obtain ⟨f1, f2, f3⟩ := cast3 hq1
      have := good a00.toNat a01.toNat a02.toNat a03 a10.toNat a11.toNat a12.toNat a13 E0 E1 E2 w h0 h1 h2 (by rw [e1, e2, e3]; exact hp1) (by omega) (by rw [f1, f2, f3]; exact hq1) (by omega)
      rw [e1, e2, e3, f1, f2, f3] at this
      exact this
end Go.Proofs.YtdgbgdkfoeoppaaDoor.recOrders
