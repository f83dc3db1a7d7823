/- The walk of package rec's reading of a key, of three errors alone. -/
import Derived.Test.YtdgbgdkfoeoppaaDoorRecRead
import Derived.Deep.CutRange
namespace Go.Proofs.YtdgbgdkfoeoppaaDoor.RecW
open Go Go.RowKit Go.Proofs.YtdgbgdkfoeoppaaDoor.Mem Go.Proofs.YtdgbgdkfoeoppaaDoor.RefW Go.Proofs.YtdgbgdkfoeoppaaDoor.Text
set_option linter.unusedVariables false
set_option maxRecDepth 100000

/-- an error, by its number: three that may be -/
def Why3 (E0 E1 E2 : Addr) (c : Nat) (E : Value) : Prop := (c = 0 ∧ E = .nilIface) ∨ (c = 101 ∧ E = SeeW.ev E0) ∨ (c = 102 ∧ E = SeeW.ev E1) ∨ (c = 103 ∧ E = SeeW.ev E2)

set_option maxHeartbeats 3200000 in
theorem read_c (x : Option Addr) (n cap : Nat) (l : List Nat) (E0 E1 E2 : Addr) (w : World) (hB0 : Err.At w 2 E0) (hB1 : Err.At w 3 E1) (hB2 : Err.At w 0 E2)
    (h : Nums .u8 w x n cap l) (hl : ∀ y ∈ l, y < 256) (hn : n ≤ 1000) :
    Calls Tryd.prog 33 #[.slice x n cap] w fun e w' => (∃ E, e = .returned (.tuple #[P ((readL l).2.1 : Nat) ((readL l).2.2.1 : Nat) ((readL l).2.2.2.1 : Nat) (ofTxt (readL l).2.2.2.2), E]) ∧ Why3 E0 E1 E2 (readL l).1 E) ∧ Below w.heap.size w w' := by
  have hlen := h.len
  obtain ⟨cb1, cb2⟩ := h.bound
  obtain ⟨e01, e02⟩ := hB0
  obtain ⟨e11, e12⟩ := hB1
  obtain ⟨e21, e22⟩ := hB2
  have g0 := World.block_lt_of_cell? w _ e01
  have g1 := World.block_lt_of_cell? w _ e11
  have g2 := World.block_lt_of_cell? w _ e21
  clear e02 e12 e22
  rcases four l with ⟨h4, e4⟩ | ⟨k, a, b, c, r, rfl⟩
  · rw [e4]
    have d1 : decide ((n : Int) < 4) = true := by rw [decide_eq_true_eq]; omega
    clear hl h e4
    go_enter Tryd.func33, Tryd.ntmps33
    go_wp2_with fail
    go_region
    all_goals go_wp2
    all_goals refine bodyPost_ret (v := .tuple #[P 0 0 0 (ofTxt []), SeeW.ev E0]) (by simp [results, Tryd.results33, go_sem]; rfl) rfl ⟨⟨_, rfl, .inr (.inl ⟨rfl, rfl⟩)⟩, ?_⟩
    all_goals exact ((Below.refl _ _).alloc (Nat.le_refl _) _).drew
  · simp only [List.length_cons] at hlen
    have d1 : decide ((n : Int) < 4) = false := by rw [decide_eq_false_iff_not]; omega
    obtain ⟨b0, o0, rfl, c0⟩ := h.at (j := 0) (by simp)
    simp at c0
    have hk := hl k (by simp)
    have ha := hl a (by simp)
    have hb := hl b (by simp)
    have hc := hl c (by simp)
    have i0 : (0 : Int) ≤ 0 ∧ (0 : Int) < n := by omega
    have HN := hid (num3 a b c)
    have HL := hid h
    have HA := hid hl
    have hc4 : (4 : Int) ≤ cap := by omega
    have cs : ∀ w', Below w.heap.size w w' → Calls Tryd.prog 59 #[.slice (some ⟨b0, o0 + 1, none⟩) 3 (cap - 1)] w' fun e w'' => e = .returned (.int .i64 (num [a, b, c])) ∧ w' = w'' := fun w' hb' =>
      says_w _ _ _ [a, b, c] w' (((part (h.below hb') 1 (by omega)).take (m := 3) (by omega))) (by intro y hy; exact hl y (by simp at hy ⊢; omega)) (by decide)
    clear h hl
    have hn1 : ¬ (cap = 1) := by omega
    have hwk : IntKind.i64.wrap (k : Int) = (k : Int) := IntWalk.i64_in _ (by omega)
    have hb0 : b0 < w.heap.size := World.block_lt_of_cell? w _ c0
    have c0' := cell?_alloc_old (.cells #[.int .i64 0, .int .i64 0, .int .i64 0, .string ⟨#[]⟩] 43) c0
    go_enter Tryd.func33, Tryd.ntmps33
    go_upto_region 3 with fail
    go_cut [4] from 13 to 20 (fun p wx => p = .pointer (some ⟨w.heap.size + 1, 0, none⟩) ∧ wx = ((w.alloc (.cells #[.int .i64 0, .int .i64 0, .int .i64 0, .string ⟨#[]⟩] 43)).alloc (.cells #[.int .i64 (k : Int), .int .i64 (num [a, b, c] : Nat), .int .i64 0, .string ⟨#[]⟩] 43)).drew)
    case first =>
      go_region_with (first | (go_at_call 59; refine (cs _ (by first | exact ((Below.refl _ _).alloc (Nat.le_refl _) _).drew | exact (((Below.refl _ _).alloc (Nat.le_refl _) _).drew).alloc (by simp) _)).mono ?_; rintro e w' ⟨rfl, rfl⟩))
      all_goals (go_wp2_with fail; go_meet; exact ⟨rfl, rfl⟩)
    case rest =>
      obtain ⟨rfl, rfl⟩ := hcut
      have HW : Below w.heap.size w ((w.alloc (.cells #[.int .i64 0, .int .i64 0, .int .i64 0, .string ⟨#[]⟩] 43)).alloc (.cells #[.int .i64 (k : Int), .int .i64 (num [a, b, c] : Nat), .int .i64 0, .string ⟨#[]⟩] 43)).drew := (((Below.refl _ _).alloc (Nat.le_refl _) _).alloc (by simp) _).drew
      obtain ⟨m, rfl⟩ : ∃ m, n = m + 4 := ⟨r.length, by omega⟩
      have hr : r.length = m := by omega
      obtain ⟨q, rfl⟩ : ∃ q, cap = q + 4 := ⟨cap - 4, by omega⟩
      clear hlen d1 i0 hn1 cs
      by_cases hk1 : k < 1 ∨ 4 < k
      · have hR : readL (k :: a :: b :: c :: r) = (103, 0, 0, 0, []) := by simp only [readL]; rw [if_pos hk1]
        go_wp2_with fail
        all_goals first | (exfalso; omega) | skip
        all_goals go_region
        all_goals go_wp2_with fail
        all_goals refine bodyPost_ret (v := .tuple #[P 0 0 0 (ofTxt []), SeeW.ev E2]) (by simp [results, Tryd.results33, go_sem]; rfl) rfl ?_
        all_goals rw [hR]
        all_goals exact ⟨⟨_, rfl, .inr (.inr (.inr ⟨rfl, rfl⟩))⟩, by first | exact HW | exact HW.drew⟩
      · have k1 : decide ((k : Int) < 1) = false := by rw [decide_eq_false_iff_not]; omega
        have k2 : decide (4 < (k : Int)) = false := by rw [decide_eq_false_iff_not]; omega
        by_cases hk4 : k = 4
        · subst hk4
          clear k1 k2 hk1 hwk
          by_cases h7 : r.length < 3
          · have hR : readL (4 :: a :: b :: c :: r) = (101, 0, 0, 0, []) := by simp only [readL]; simp [h7]
            have d2 : decide ((m : Int) < 3) = true := by rw [decide_eq_true_eq]; omega
            go_wp2_with fail
            all_goals go_region
            all_goals go_wp2_with fail
            all_goals refine bodyPost_ret (v := .tuple #[P 0 0 0 (ofTxt []), SeeW.ev E0]) (by simp [results, Tryd.results33, go_sem]; rfl) rfl ?_
            all_goals rw [hR]
            all_goals exact ⟨⟨_, rfl, .inr (.inl ⟨rfl, rfl⟩)⟩, by first | exact HW | exact HW.drew⟩
          · have d2 : decide ((m : Int) < 3) = false := by rw [decide_eq_false_iff_not]; omega
            by_cases h8 : 3 < r.length
            · have hR : readL (4 :: a :: b :: c :: r) = (102, 0, 0, 0, []) := by simp only [readL]; simp [h7, h8]
              have d3 : decide ((3 : Int) < (m : Int)) = true := by rw [decide_eq_true_eq]; omega
              go_wp2_with fail
              all_goals go_region
              all_goals go_wp2_with fail
              all_goals refine bodyPost_ret (v := .tuple #[P 0 0 0 (ofTxt []), SeeW.ev E1]) (by simp [results, Tryd.results33, go_sem]; rfl) rfl ?_
              all_goals rw [hR]
              all_goals exact ⟨⟨_, rfl, .inr (.inr (.inl ⟨rfl, rfl⟩))⟩, by first | exact HW | exact HW.drew⟩
            · have hm3 : m = 3 := by omega
              subst hm3
              have hR : readL (4 :: a :: b :: c :: r) = (0, 4, num [a, b, c], num r, []) := by simp only [readL]; simp [h7, h8]
              have hq : ¬ (q = 0) := by omega
              have cz : ∀ w', Below w.heap.size w w' → Calls Tryd.prog 59 #[.slice (some ⟨b0, o0 + 4, none⟩) 3 q] w' fun e w'' => e = .returned (.int .i64 (num r)) ∧ w' = w'' := fun w' hb' =>
                says_w _ _ _ r w' (by simpa using part (HL.out.below hb') 4 (by omega)) (by intro y hy; exact HA.out y (by simp [hy])) (by decide)
              go_wp2_with (first | (go_at_call 59; refine (cz _ HW).mono ?_; rintro e w' ⟨rfl, rfl⟩))
              refine bodyPost_ret (v := .tuple #[P 4 (num [a, b, c] : Nat) (num r : Nat) (ofTxt []), .nilIface]) (by simp [results, Tryd.results33, go_sem]; rfl) rfl ?_
              try rw [hR]
              exact ⟨⟨_, rfl, .inl ⟨rfl, rfl⟩⟩, (((Below.refl _ _).alloc (Nat.le_refl _) _).alloc (by simp) _).drew⟩
        · have k3 : ((k : Int) == 4) = false := by simp; omega
          by_cases hq : q = 0
          · subst hq
            obtain rfl : m = 0 := by omega
            obtain rfl : r = [] := List.eq_nil_of_length_eq_zero hr
            have cv := conv ((zero .u8 w b0 o0).below HW)
            have hR : readL [k, a, b, c] = (0, k, num [a, b, c], 0, []) := by
              simp only [readL]; rw [if_neg hk1, if_neg hk4]; by_cases h3 : k = 3
              · rw [if_pos h3, h3]; rfl
              · rw [if_neg h3]; rfl
            by_cases hk3 : k = 3
            case' pos => have k4 : ((k : Int) == 3) = true := by simp; omega
            case' neg => have k4 : ((k : Int) == 3) = false := by simp; omega
            all_goals
              clear hk3
              go_wp2_with fail
              refine bodyPost_ret (v := .tuple #[P (k : Int) (num [a, b, c] : Nat) 0 (ofTxt []), .nilIface]) (by simp [results, Tryd.results33, go_sem]) rfl ?_
              try rw [hR]
              exact ⟨⟨_, rfl, .inl ⟨rfl, rfl⟩⟩, (((Below.refl _ _).alloc (Nat.le_refl _) _).alloc (by simp) _).drew⟩
          · have cv := conv ((part HL.out 4 (by omega)).below HW)
            rw [Nat.add_sub_cancel, Nat.add_sub_cancel, show List.drop 4 (k :: a :: b :: c :: r) = r from rfl] at cv
            by_cases hk3 : k = 3
            · have k4 : ((k : Int) == 3) = true := by simp; omega
              by_cases h8 : 24 < m
              · have hR : readL (k :: a :: b :: c :: r) = (102, 0, 0, 0, []) := by simp only [readL]; rw [if_neg hk1, if_neg hk4, if_pos hk3, if_pos (by omega)]
                have d3 : decide ((24 : Int) < (m : Int)) = true := by rw [decide_eq_true_eq]; omega
                have d4 : decide ((m : Int) < 0) = false := by rw [decide_eq_false_iff_not]; omega
                clear hk3
                go_wp2_with fail
                all_goals go_region
                all_goals go_wp2_with fail
                all_goals refine bodyPost_ret (v := .tuple #[P 0 0 0 (ofTxt []), SeeW.ev E1]) (by simp [results, Tryd.results33, go_sem]; rfl) rfl ?_
                all_goals rw [hR]
                all_goals exact ⟨⟨_, rfl, .inr (.inr (.inl ⟨rfl, rfl⟩))⟩, by first | exact HW | exact HW.drew⟩
              · have hR : readL (k :: a :: b :: c :: r) = (0, k, num [a, b, c], 0, r) := by simp only [readL]; rw [if_neg hk1, if_neg hk4, if_pos hk3, if_neg (by omega), hk3]
                have d3 : decide ((24 : Int) < (m : Int)) = false := by rw [decide_eq_false_iff_not]; omega
                have d4 : decide ((m : Int) < 0) = false := by rw [decide_eq_false_iff_not]; omega
                clear hk3
                go_wp2_with fail
                refine bodyPost_ret (v := .tuple #[P (k : Int) (num [a, b, c] : Nat) 0 (ofTxt r), .nilIface]) (by simp [results, Tryd.results33, go_sem]) rfl ?_
                try rw [hR]
                exact ⟨⟨_, rfl, .inl ⟨rfl, rfl⟩⟩, (((Below.refl _ _).alloc (Nat.le_refl _) _).alloc (by simp) _).drew⟩
            · have k4 : ((k : Int) == 3) = false := by simp; omega
              by_cases h8 : 0 < m
              · have hR : readL (k :: a :: b :: c :: r) = (102, 0, 0, 0, []) := by simp only [readL]; rw [if_neg hk1, if_neg hk4, if_neg hk3, if_pos (by omega)]
                have d3 : decide ((0 : Int) < (m : Int)) = true := by rw [decide_eq_true_eq]; omega
                have d4 : decide ((m : Int) < 0) = false := by rw [decide_eq_false_iff_not]; omega
                go_wp2_with fail
                all_goals go_region
                all_goals go_wp2_with fail
                all_goals refine bodyPost_ret (v := .tuple #[P 0 0 0 (ofTxt []), SeeW.ev E1]) (by simp [results, Tryd.results33, go_sem]; rfl) rfl ?_
                all_goals rw [hR]
                all_goals exact ⟨⟨_, rfl, .inr (.inr (.inl ⟨rfl, rfl⟩))⟩, by first | exact HW | exact HW.drew⟩
              · obtain rfl : r = [] := List.eq_nil_of_length_eq_zero (by omega)
                have hR : readL [k, a, b, c] = (0, k, num [a, b, c], 0, []) := by simp only [readL]; rw [if_neg hk1, if_neg hk4, if_neg hk3, if_neg (by simp)]
                have d3 : decide ((0 : Int) < (m : Int)) = false := by rw [decide_eq_false_iff_not]; omega
                have d4 : decide ((m : Int) < 0) = false := by rw [decide_eq_false_iff_not]; omega
                go_wp2_with fail
                refine bodyPost_ret (v := .tuple #[P (k : Int) (num [a, b, c] : Nat) 0 (ofTxt []), .nilIface]) (by simp [results, Tryd.results33, go_sem]) rfl ?_
                try rw [hR]
                exact ⟨⟨_, rfl, .inl ⟨rfl, rfl⟩⟩, (((Below.refl _ _).alloc (Nat.le_refl _) _).alloc (by simp) _).drew⟩
end Go.Proofs.YtdgbgdkfoeoppaaDoor.RecW
