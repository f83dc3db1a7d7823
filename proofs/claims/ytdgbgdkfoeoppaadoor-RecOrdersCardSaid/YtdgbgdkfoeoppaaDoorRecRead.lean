/- The walk of the reference's reading of a key. -/
import Derived.Test.YtdgbgdkfoeoppaaDoorRecWalk
import Derived.BigQuiet
namespace Go.Proofs.YtdgbgdkfoeoppaaDoor.RecW
open Go Go.RowKit Go.Proofs.YtdgbgdkfoeoppaaDoor.Mem Go.Proofs.YtdgbgdkfoeoppaaDoor.RefW Go.Proofs.YtdgbgdkfoeoppaaDoor.Text
set_option linter.unusedVariables false
set_option maxRecDepth 100000

/-- what bytes say: the error's number (0: none), the kind, the node, the index, the name -/
def readL : List Nat → Nat × Nat × Nat × Nat × List Nat
  | k :: a :: b :: c :: r =>
    if k < 1 ∨ 4 < k then (103, 0, 0, 0, [])
    else if k = 4 then (if r.length < 3 then (101, 0, 0, 0, []) else if 3 < r.length then (102, 0, 0, 0, []) else (0, 4, num [a, b, c], num r, []))
    else if k = 3 then (if 24 < r.length then (102, 0, 0, 0, []) else (0, 3, num [a, b, c], 0, r))
    else if 0 < r.length then (102, 0, 0, 0, []) else (0, k, num [a, b, c], 0, [])
  | _ => (101, 0, 0, 0, [])
/-- bytes that are too few, or four and more -/
theorem four (l : List Nat) : (l.length < 4 ∧ readL l = (101, 0, 0, 0, [])) ∨ ∃ k a b c r, l = k :: a :: b :: c :: r := by
  match l with
  | [] => exact .inl ⟨by decide, rfl⟩
  | [_] => exact .inl ⟨by simp, rfl⟩
  | [_, _] => exact .inl ⟨by simp, rfl⟩
  | [_, _, _] => exact .inl ⟨by simp, rfl⟩
  | k :: a :: b :: c :: r => exact .inr ⟨k, a, b, c, r, rfl⟩
theorem num3 (a b c : Nat) : num [a, b, c] = a * 65536 + b * 256 + c := by simp [num]; omega
theorem or_a (a b : Nat) (ha : a < 256) (hb : b < 256) : bits .or .i64 ((a : Int) * 65536) ((b : Int) * 256) = ((a * 65536 + b * 256 : Nat) : Int) := by
  rw [bits_join .i64 62 (by decide) (fun n h0 h1 => IntWalk.i64_in _ (by omega)) 16 _ _ (by omega) (by omega) (by omega) (by omega) (by omega) (by omega)]
  omega
theorem or_b (v c : Nat) (hv : v < 16777216) (h0 : v % 256 = 0) (hc : c < 256) : bits .or .i64 (v : Int) (c : Int) = ((v + c : Nat) : Int) := by
  rw [bits_join .i64 62 (by decide) (fun n h0 h1 => IntWalk.i64_in _ (by omega)) 8 _ _ (by omega) (by omega) (by omega) (by omega) (by omega) (by omega)]
  omega
theorem part {w : World} {k : IntKind} {b o n cap : Nat} {l : List Nat} (h : Nums k w (some ⟨b, o, none⟩) n cap l) (m : Nat) (hm : m ≤ n) : Nums k w (some ⟨b, o + m, none⟩) (n - m) (cap - m) (l.drop m) := by
  have hl := h.len
  obtain ⟨h1, h2, h3, h4, h5⟩ := h
  refine ⟨by rw [nums_length, List.length_drop]; omega, by omega, by omega, fun h => by simp at h, fun j u hj => ⟨b, o + m, rfl, ?_⟩⟩
  have e : nums k (l.drop m) = (nums k l).drop m := by simp [nums, List.map_drop]
  rw [e, List.getElem?_drop] at hj
  obtain ⟨b', o', he, hc⟩ := h5 (m + j) u hj
  cases he
  rw [Nat.add_assoc]
  exact hc

theorem zero (k : IntKind) (w : World) (b o : Nat) : Nums k w (some ⟨b, o, none⟩) 0 0 [] := ⟨rfl, Nat.le_refl _, Nat.zero_le _, fun h => by simp at h, fun j u h => by simp [nums] at h⟩

set_option maxHeartbeats 3200000 in
theorem rread_w (x : Option Addr) (n cap : Nat) (l : List Nat) (w : World) (h : Nums .u8 w x n cap l) (hl : ∀ y ∈ l, y < 256) (hn : n ≤ 1000) :
    Calls Tryd.prog 34 #[.slice x n cap] w fun e w' => e = .returned (.tuple #[.int .i64 ((readL l).2.1 : Nat), .int .i64 ((readL l).2.2.1 : Nat), .int .i64 ((readL l).2.2.2.1 : Nat), .string (ofTxt (readL l).2.2.2.2), .int .i64 ((readL l).1 : Nat)]) ∧ Below w.heap.size w w' := by
  have hlen := h.len
  obtain ⟨cb1, cb2⟩ := h.bound
  rcases four l with ⟨h4, e4⟩ | ⟨k, a, b, c, r, rfl⟩
  · rw [e4]
    have d1 : decide ((n : Int) < 4) = true := by rw [decide_eq_true_eq]; omega
    clear hl h e4
    go_enter Tryd.func34, Tryd.ntmps34
    go_wp2_with fail
    refine bodyPost_ret (v := .tuple #[.int .i64 0, .int .i64 0, .int .i64 0, .string (ofTxt []), .int .i64 101]) (by simp [results, Tryd.results34, go_sem]; rfl) rfl ⟨rfl, Below.refl _ _⟩
  · simp only [List.length_cons] at hlen
    have d1 : decide ((n : Int) < 4) = false := by rw [decide_eq_false_iff_not]; omega
    obtain ⟨b0, o0, rfl, c0⟩ := h.at (j := 0) (by simp)
    have c1 := Row.cell h (j := 1) (u := .int .u8 (a : Int)) (by simp [nums])
    have c2 := Row.cell h (j := 2) (u := .int .u8 (b : Int)) (by simp [nums])
    have c3 := Row.cell h (j := 3) (u := .int .u8 (c : Int)) (by simp [nums])
    simp at c0
    have hk := hl k (by simp)
    have ha := hl a (by simp)
    have hb := hl b (by simp)
    have hc := hl c (by simp)
    have i1 : (0 : Int) ≤ 1 ∧ (1 : Int) < n := by omega
    have i2 : (0 : Int) ≤ 2 ∧ (2 : Int) < n := by omega
    have i3 : (0 : Int) ≤ 3 ∧ (3 : Int) < n := by omega
    have o1 := or_a a b ha hb
    have o2 : bits .or .i64 ((a : Int) * 65536 + (b : Int) * 256) (c : Int) = (a : Int) * 65536 + (b : Int) * 256 + (c : Int) := by simpa using or_b (a * 65536 + b * 256) c (by omega) (by omega) hc
    have HN := hid (num3 a b c)
    have HL := hid h
    have HA := hid hl
    clear h hl
    by_cases hk1 : k < 1 ∨ 4 < k
    · have HR := hid (show readL (k :: a :: b :: c :: r) = (103, 0, 0, 0, []) by simp only [readL]; rw [if_pos hk1])
      rw [HR.out]
      go_enter Tryd.func34, Tryd.ntmps34
      go_wp2_with fail
      all_goals first | (exfalso; omega) | refine bodyPost_ret (v := .tuple #[.int .i64 0, .int .i64 0, .int .i64 0, .string (ofTxt []), .int .i64 103]) (by simp [results, Tryd.results34, go_sem]; rfl) rfl ⟨rfl, Below.refl _ _⟩
    · have k1 : decide ((k : Int) < 1) = false := by rw [decide_eq_false_iff_not]; omega
      have k2 : decide (4 < (k : Int)) = false := by rw [decide_eq_false_iff_not]; omega
      by_cases hk4 : k = 4
      · subst hk4
        clear k1 k2 hk1
        by_cases h7 : r.length < 3
        · rw [show readL (4 :: a :: b :: c :: r) = (101, 0, 0, 0, []) by simp only [readL]; simp [h7]]
          have d2 : decide ((n : Int) < 7) = true := by rw [decide_eq_true_eq]; omega
          go_enter Tryd.func34, Tryd.ntmps34
          go_wp2_with fail
          refine bodyPost_ret (v := .tuple #[.int .i64 0, .int .i64 0, .int .i64 0, .string (ofTxt []), .int .i64 101]) (by simp [results, Tryd.results34, go_sem]; rfl) rfl ⟨rfl, Below.refl _ _⟩
        · have d2 : decide ((n : Int) < 7) = false := by rw [decide_eq_false_iff_not]; omega
          by_cases h8 : 3 < r.length
          · rw [show readL (4 :: a :: b :: c :: r) = (102, 0, 0, 0, []) by simp only [readL]; simp [h7, h8]]
            have d3 : decide ((7 : Int) < (n : Int)) = true := by rw [decide_eq_true_eq]; omega
            go_enter Tryd.func34, Tryd.ntmps34
            go_wp2_with fail
            refine bodyPost_ret (v := .tuple #[.int .i64 0, .int .i64 0, .int .i64 0, .string (ofTxt []), .int .i64 102]) (by simp [results, Tryd.results34, go_sem]; rfl) rfl ⟨rfl, Below.refl _ _⟩
          · obtain ⟨d, e, f, rfl⟩ : ∃ d e f, r = [d, e, f] := by
              match r, h7, h8 with
              | [d, e, f], _, _ => exact ⟨d, e, f, rfl⟩
              | [], h7, _ => exact absurd (by simp) h7
              | [_], h7, _ => exact absurd (by simp) h7
              | [_, _], h7, _ => exact absurd (by simp) h7
              | _ :: _ :: _ :: _ :: _, _, h8 => exact absurd (by simp) h8
            have d3 : decide ((7 : Int) < (n : Int)) = false := by rw [decide_eq_false_iff_not]; simp at hlen; omega
            have c4 := Row.cell HL.out (j := 4) (u := .int .u8 (d : Int)) (by simp [nums])
            have c5 := Row.cell HL.out (j := 5) (u := .int .u8 (e : Int)) (by simp [nums])
            have c6 := Row.cell HL.out (j := 6) (u := .int .u8 (f : Int)) (by simp [nums])
            have hd := HA.out d (by simp)
            have he := HA.out e (by simp)
            have hf := HA.out f (by simp)
            have o3 := or_a d e hd he
            have o4 : bits .or .i64 ((d : Int) * 65536 + (e : Int) * 256) (f : Int) = (d : Int) * 65536 + (e : Int) * 256 + (f : Int) := by simpa using or_b (d * 65536 + e * 256) f (by omega) (by omega) hf
            have HM := hid (num3 d e f)
            have hn7 : n = 7 := by simp at hlen; omega
            subst hn7
            rw [show readL [4, a, b, c, d, e, f] = (0, 4, num [a, b, c], num [d, e, f], []) by simp [readL], HN.out, HM.out]
            clear h7 h8 hlen i1 i2 i3 cb2 hn d1 d2 d3
            go_enter Tryd.func34, Tryd.ntmps34
            go_wp2_with fail
            go_quiet (fail)
            go_wp2_with fail
            go_quiet (fail)
            go_wp2_with fail
            refine bodyPost_ret (v := .tuple #[.int .i64 4, .int .i64 ((a : Int) * 65536 + (b : Int) * 256 + (c : Int)), .int .i64 ((d : Int) * 65536 + (e : Int) * 256 + (f : Int)), .string (ofTxt []), .int .i64 0]) (by simp [results, Tryd.results34, go_sem]; rfl) rfl ⟨by simp, below_drewN (Below.refl _ _) _⟩
      · have k3 : ((k : Int) == 4) = false := by simp; omega
        have d2 : decide ((n : Int) < 4) = false := d1
        by_cases hk3 : k = 3
        · subst hk3
          clear k1 k2 k3 hk1 hk4
          by_cases h8 : 24 < r.length
          · rw [show readL (3 :: a :: b :: c :: r) = (102, 0, 0, 0, []) by simp only [readL]; simp [h8]]
            have d3 : decide ((28 : Int) < (n : Int)) = true := by rw [decide_eq_true_eq]; omega
            go_enter Tryd.func34, Tryd.ntmps34
            go_wp2_with fail
            refine bodyPost_ret (v := .tuple #[.int .i64 0, .int .i64 0, .int .i64 0, .string (ofTxt []), .int .i64 102]) (by simp [results, Tryd.results34, go_sem]; rfl) rfl ⟨rfl, Below.refl _ _⟩
          · rw [show readL (3 :: a :: b :: c :: r) = (0, 3, num [a, b, c], 0, r) by simp only [readL]; simp [h8], HN.out]
            have d3 : decide ((28 : Int) < (n : Int)) = false := by rw [decide_eq_false_iff_not]; omega
            by_cases hcap4 : cap = 4
            case' pos =>
              subst hcap4
              have hn4 : n = 4 := by omega
              subst hn4
              obtain rfl : r = [] := List.eq_nil_of_length_eq_zero (by omega)
              have cv := fun m => conv (Nums.below (zero .u8 w b0 o0) (below_drewN (Below.refl _ _) m))
            case' neg =>
              have cv := fun m => conv (Nums.below (part HL.out 4 (by omega)) (below_drewN (Below.refl _ _) m))
              rw [show List.drop 4 (3 :: a :: b :: c :: r) = r from rfl] at cv
            all_goals
              go_enter Tryd.func34, Tryd.ntmps34
              go_wp2_with fail
              go_quiet (fail)
              go_wp2_with fail
              refine bodyPost_ret (v := .tuple #[.int .i64 3, .int .i64 ((a : Int) * 65536 + (b : Int) * 256 + (c : Int)), .int .i64 0, .string (ofTxt _), .int .i64 0]) (by simp [results, Tryd.results34, go_sem]; rfl) rfl ⟨by simp, below_drewN (Below.refl _ _) _⟩
        · have k4 : ((k : Int) == 3) = false := by simp; omega
          by_cases h8 : 0 < r.length
          · rw [show readL (k :: a :: b :: c :: r) = (102, 0, 0, 0, []) by simp only [readL]; rw [if_neg hk1, if_neg hk4, if_neg hk3, if_pos h8]]
            have d3 : decide ((4 : Int) < (n : Int)) = true := by rw [decide_eq_true_eq]; omega
            go_enter Tryd.func34, Tryd.ntmps34
            go_wp2_with fail
            refine bodyPost_ret (v := .tuple #[.int .i64 0, .int .i64 0, .int .i64 0, .string (ofTxt []), .int .i64 102]) (by simp [results, Tryd.results34, go_sem]; rfl) rfl ⟨rfl, Below.refl _ _⟩
          · rw [show readL (k :: a :: b :: c :: r) = (0, k, num [a, b, c], 0, []) by simp only [readL]; rw [if_neg hk1, if_neg hk4, if_neg hk3, if_neg h8], HN.out]
            have d3 : decide ((4 : Int) < (n : Int)) = false := by rw [decide_eq_false_iff_not]; omega
            go_enter Tryd.func34, Tryd.ntmps34
            go_wp2_with fail
            go_quiet (fail)
            go_wp2_with fail
            refine bodyPost_ret (v := .tuple #[.int .i64 k, .int .i64 ((a : Int) * 65536 + (b : Int) * 256 + (c : Int)), .int .i64 0, .string (ofTxt []), .int .i64 0]) (by simp [results, Tryd.results34, go_sem]; rfl) rfl ⟨by simp, below_drewN (Below.refl _ _) _⟩
end Go.Proofs.YtdgbgdkfoeoppaaDoor.RecW
