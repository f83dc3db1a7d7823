/- The chapter's examples; plain facts about one form a number has. -/
import Derived.Test.YtdgbgdkfoeoppaaDoorWirePut
namespace Go.Proofs.YtdgbgdkfoeoppaaDoor.Wire
open Go Go.RowKit Go.Proofs.YtdgbgdkfoeoppaaDoor.Mem Go.Proofs.YtdgbgdkfoeoppaaDoor.RefW Go.Proofs.YtdgbgdkfoeoppaaDoor.Text
set_option linter.unusedVariables false
set_option maxRecDepth 100000

set_option maxHeartbeats 1600000 in
theorem first_w (w : World) : Calls Tryd.prog 37 #[] w fun e w' => e = .returned (.bool true) ∧ Below w.heap.size w w' := by
  go_enter Tryd.func37, Tryd.ntmps37
  go_wp2_with fail
  refine (puts_w none 0 0 [] (-1) _ (Nums.nil _ _) (by decide) (by decide)).mono ?_
  rintro e w1 ⟨v, rfl, hv, hb1⟩
  rw [show enc (zig (-1)) = [1] by rw [show zig (-1) = 1 from rfl, enc_lt (by decide)]] at hv
  have z1 := hb1.size
  obtain ⟨a, cap, rfl, hr⟩ := ownsRow_slice hv
  have hr : Nums .u8 w1 a 1 cap [1] := hr
  clear hv
  go_wp2_with fail
  have h1 := Row.fresh w1 #[.int .u8 1] 5 (0, 0) 1 rfl (by decide)
  refine (RefW.same_w a 1 cap [1] _ 1 1 [1] _ (hr.below ((Below.refl _ _).alloc (Nat.le_refl _) _)) h1).mono ?_
  rintro e w2 ⟨rfl, hb2⟩
  have c := below_put hb1 z1 _ hb2
  have z2 := c.size
  clear hr h1 hb1 hb2 z1
  go_wp2_with fail
  refine (puts_w none 0 0 [] 64 _ (Nums.nil _ _) (by decide) (by decide)).mono ?_
  rintro e w3 ⟨v, rfl, hv, hb3⟩
  rw [show enc (zig 64) = [128, 1] by rw [show zig 64 = 128 from rfl, enc_ge (by decide), show (128 : Nat) / 128 = 1 from rfl, enc_lt (by decide)]] at hv
  obtain ⟨a, cap, rfl, hr⟩ := ownsRow_slice hv
  have hr : Nums .u8 w3 a 2 cap [128, 1] := hr
  have c3 := c.trans (hb3.mono z2)
  clear hv
  go_wp2_with fail
  have h2 := Row.fresh w3 #[.int .u8 128, .int .u8 1] 5 (0, 0) 2 rfl (by decide)
  refine (RefW.same_w a 2 cap [128, 1] _ 2 2 [128, 1] _ (hr.below ((Below.refl _ _).alloc (Nat.le_refl _) _)) h2).mono ?_
  rintro e w4 ⟨rfl, hb4⟩
  have c4 := below_put c3 c3.size _ hb4
  go_wp2_with fail
  go_ret
  exact ⟨rfl, c4⟩

/-- of two numbers' forms neither begins the other -/
theorem enc_free {z z' : Nat} (h : z < 18446744073709551616) (h' : z' < 18446744073709551616) (e : enc z = (enc z').take (enc z).length) : z = z' := by
  have h9 : 2 * 128 ^ (9 - 0) = 18446744073709551616 := by decide
  have e1 := dec_enc z' 0 0 [] (.inl rfl) (by rw [h9]; exact h') (by decide)
  have e2 := dec_enc z 0 0 ((enc z').drop (enc z).length) (.inl rfl) (by rw [h9]; exact h) (by decide)
  rw [List.append_nil] at e1
  have e3 : enc z ++ (enc z').drop (enc z).length = enc z' := by
    conv => lhs; arg 1; rw [e]
    exact List.take_append_drop _ _
  rw [e3, e1] at e2
  simp at e2
  omega
theorem enc_last (z : Nat) : ∀ c, (enc z)[(enc z).length - 1]? = some c → c < 128 := by
  induction z using Nat.strongRecOn with
  | ind z ih =>
    intro c hc
    by_cases h : z < 128
    · rw [enc_lt h] at hc
      simp at hc; omega
    · rw [enc_ge h, List.length_cons, Nat.add_sub_cancel] at hc
      have hp := enc_pos (z / 128)
      obtain ⟨m, hm⟩ : ∃ m, (enc (z / 128)).length = m + 1 := ⟨(enc (z / 128)).length - 1, by omega⟩
      rw [hm, List.getElem?_cons_succ] at hc
      exact ih (z / 128) (by omega) c (by rw [hm, Nat.add_sub_cancel]; exact hc)
/-- a form with a nothing behind is none -/
theorem dec_bad (z : Nat) : ∀ (i acc c : Nat), (enc z)[(enc z).length - 1]? = some c → z < 2 * 128 ^ (9 - i) → i ≤ 9 → dec i acc ((enc z).set ((enc z).length - 1) (c + 128) ++ [0]) = .shape := by
  induction z using Nat.strongRecOn with
  | ind z ih =>
    intro i acc c hc hz hi
    have hl := enc_last z c hc
    by_cases h : z < 128
    · rw [enc_lt h] at hc ⊢
      simp at hc
      subst hc
      show dec i acc [z + 128, 0] = _
      rw [dec]
      by_cases h9 : i = 9
      · rw [if_pos ⟨h9, by omega⟩]
      · rw [if_neg (by omega), if_pos (by omega), dec, if_neg (by omega), if_neg (by decide), if_pos ⟨rfl, by omega⟩]
    · have hp := enc_pos (z / 128)
      obtain ⟨m, hm⟩ : ∃ m, (enc (z / 128)).length = m + 1 := ⟨(enc (z / 128)).length - 1, by omega⟩
      rw [enc_ge h, List.length_cons, Nat.add_sub_cancel, hm] at hc ⊢
      rw [List.getElem?_cons_succ] at hc
      rw [List.set_cons_succ]
      have hi8 : i ≤ 8 := by
        rcases Nat.lt_or_ge i 9 with h9 | h9
        · omega
        · have : i = 9 := by omega
          subst this; simp at hz; omega
      have hpw : 128 ^ (9 - i) = 128 * 128 ^ (9 - (i + 1)) := by
        rw [show 9 - i = (9 - (i + 1)) + 1 by omega, Nat.pow_succ, Nat.mul_comm]
      have := ih (z / 128) (by omega) (i + 1) (acc + (z % 128 + 128) % 128 * 128 ^ i) c (by rw [hm, Nat.add_sub_cancel]; exact hc) (by omega) (by omega)
      rw [hm, Nat.add_sub_cancel] at this
      show dec i acc ((z % 128 + 128) :: ((enc (z / 128)).set m (c + 128) ++ [0])) = _
      rw [dec, if_neg (by omega), if_pos (by omega)]
      exact this
end Go.Proofs.YtdgbgdkfoeoppaaDoor.Wire
