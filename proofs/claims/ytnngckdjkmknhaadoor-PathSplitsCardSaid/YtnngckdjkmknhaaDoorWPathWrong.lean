/- The walk of PathWrong. -/
import Derived.Test.YtnngckdjkmknhaaDoorPathText
import Derived.Test.YtnngckdjkmknhaaDoorPathWrong
import Derived.Test.YtnngckdjkmknhaaDoorNumWalk
namespace Go.Proofs.YtnngckdjkmknhaaDoor.PathW
open Go Go.RowKit Go.Proofs.YtnngckdjkmknhaaDoor.Mem Go.Proofs.YtnngckdjkmknhaaDoor.SeeW
set_option linter.unusedVariables false
set_option maxRecDepth 100000

/-- an error's number asked for -/
theorem is_errv (bs : List Addr) (c : Nat) (w : World) (h : Bs w bs) (hc : c = 0 ∨ 101 ≤ c ∧ c ≤ 124) (want : Int) :
    Calls Tryd.prog 10 #[errv bs c, .int .i64 want] w fun e w' => e = .returned (.bool ((c : Int) == want)) ∧ Below w.heap.size w w' := by
  rcases hc with rfl | ⟨h1, h2⟩
  · exact is_nil w want
  · have hl := h.1
    have hg : bs[c - 101]? = some bs[c - 101] := List.getElem?_eq_getElem (by omega)
    have e : errv bs c = ev bs[c - 101] := by
      unfold errv
      rw [if_neg (by omega), List.getD_eq_getElem?_getD, hg]
      rfl
    rw [e]
    have := is_w bs w h (c - 101) _ hg want
    rw [show (101 : Int) + ((c - 101 : Nat) : Int) = (c : Int) by omega] at this
    exact this


def tsize : Value → Nat
  | .string s => s.size
  | _ => 0

end Go.Proofs.YtnngckdjkmknhaaDoor.PathW
namespace Go.Proofs.YtnngckdjkmknhaaDoor.pathWrong
open Go Go.RowKit Go.Proofs.YtnngckdjkmknhaaDoor.Mem Go.Proofs.YtnngckdjkmknhaaDoor.SeeW Go.Proofs.YtnngckdjkmknhaaDoor.PathW
set_option linter.unusedVariables false
set_option maxRecDepth 100000

set_option maxHeartbeats 1600000 in
theorem done (bs : List Addr) (a0 a1 : Int) (w : World) (h : Bs w bs) (l0 : -9223372036854775808 ≤ a0) (u0 : a0 ≤ 9223372036854775807) (l1 : -9223372036854775808 ≤ a1) (u1 : a1 ≤ 9223372036854775807) :
    Calls Tryd.prog 3 #[.int .i64 a0, .int .i64 a1] w fun e w' => e = .returned (.bool true) ∧ Below w.heap.size w w' := by
  have hpm := Int.emod_nonneg a0 (b := 300) (by omega)
  have hpl := Int.emod_lt_of_pos a0 (b := 300) (by omega)
  obtain ⟨n, hp⟩ := Int.eq_ofNat_of_zero_le hpm
  have HP := hid hp
  have hn : n < 300 := by omega
  have hqm := Int.emod_nonneg a1 (b := 5) (by omega)
  have hql := Int.emod_lt_of_pos a1 (b := 5) (by omega)
  obtain ⟨q, hq⟩ := Int.eq_ofNat_of_zero_le hqm
  have HQ := hid hq
  have hqn : q < 5 := by omega
  clear hp hpm hpl hq hqm hql
  go_enter Tryd.func3, Tryd.ntmps3
  go_wp2_with fail
  refine (first_w bs _ h).mono ?_
  rintro e w1 ⟨rfl, hb1⟩
  have h1 := h.below hb1
  have z1 := hb1.size
  clear h
  go_wp2_with fail
  refine (NumW.number_w a0 300 _ (by omega) (by omega) l0 u0).mono ?_
  rintro e w' ⟨rfl, rfl⟩
  rw [HP.out]
  go_wp2_with fail
  go_loopw [6] (fun v wr => ∃ (k : Nat) (s : ByteArray), v = .string s ∧ s.data.toList = Path.base k ∧ k ≤ 100 ∧ wr = w1) (fun v _ => 300 - tsize v)
  case atStart => exact ⟨0, _, rfl, rfl, by omega, rfl⟩
  case round =>
    obtain ⟨k, s, rfl, hs, hk, rfl⟩ := hrel
    have hsz : s.size = 3 * k + 1 := by rw [← Path.base_length, ← hs, Array.length_toList]; rfl
    by_cases hlt : s.size < n
    · go_wp2
      go_roundw
      case rel => exact ⟨k + 1, _, rfl, by rw [app_list, hs, Path.base_succ], by omega, trivial⟩
      case measure => show 300 - (s ++ (⟨#[97, 98, 47]⟩ : ByteArray)).size < 300 - s.size; rw [ByteArray.size_append]; show 300 - (s.size + 3) < _; omega
    · go_wp2_with fail
      refine (NumW.number_w a1 5 _ (by omega) (by omega) l1 u1).mono ?_
      rintro e w' ⟨rfl, rfl⟩
      rw [HQ.out]
      clear HQ HP l0 u0 l1 u1
      by_cases q0 : q = 0
      · subst q0
        have hz : s.size = 3 * k + 1 := by exact hsz
        by_cases hL : 256 < 3 * k + 1
        · have hbS : bad s = 115 := by show Path.bad _ = _; rw [hs, Path.bad_fine, if_pos hL]
          go_wp2_with fail
          refine (parse_w bs s _ h1 (by omega)).mono ?_
          rintro e w2 ⟨v, rfl, own, hb2⟩
          have h2 := h1.below hb2
          have z2 := hb2.size
          obtain ⟨va, vc, rfl, hT⟩ := texts_of own
          rw [hbS]
          clear own hT
          go_wp2_with fail
          refine (is_errv bs 115 _ (h2.below ((Below.refl _ _).alloc (Nat.le_refl _) _)) (by omega) _).mono ?_
          rintro e w3 ⟨rfl, hb3⟩
          go_wp2
          go_ret
          exact ⟨rfl, hb1.trans ((hb2.trans (below_put (Below.refl _ _) (by omega) _ hb3)).mono z1)⟩
        · have hbS : bad s = 0 := by show Path.bad _ = _; rw [hs, Path.bad_fine, if_neg hL]
          go_wp2_with fail
          refine (parse_w bs s _ h1 (by omega)).mono ?_
          rintro e w2 ⟨v, rfl, own, hb2⟩
          have h2 := h1.below hb2
          have z2 := hb2.size
          obtain ⟨va, vc, rfl, hT⟩ := texts_of own
          rw [hbS]
          clear own hT
          go_wp2_with fail
          refine (is_errv bs 0 _ (h2.below ((Below.refl _ _).alloc (Nat.le_refl _) _)) (by omega) _).mono ?_
          rintro e w3 ⟨rfl, hb3⟩
          go_wp2
          go_ret
          exact ⟨rfl, hb1.trans ((hb2.trans (below_put (Below.refl _ _) (by omega) _ hb3)).mono z1)⟩
      by_cases q2 : q = 2
      · subst q2
        have hz : (⟨#[120]⟩ ++ s).size = 3 * k + 2 := by rw [ByteArray.size_append, hsz]; show 1 + _ = _; omega
        by_cases hL : 256 < 3 * k + 2
        · have hbS : bad (⟨#[120]⟩ ++ s) = 115 := by show Path.bad _ = _; rw [app_list, hs, show (⟨#[120]⟩ : ByteArray).data.toList ++ Path.base k = 120 :: Path.base k from rfl, Path.bad_x, if_pos hL]
          go_wp2_with fail
          generalize (⟨#[120]⟩ ++ s : ByteArray) = S at *
          clear hsz
          refine (parse_w bs S _ h1 (by omega)).mono ?_
          rintro e w2 ⟨v, rfl, own, hb2⟩
          have h2 := h1.below hb2
          have z2 := hb2.size
          obtain ⟨va, vc, rfl, hT⟩ := texts_of own
          rw [hbS]
          clear own hT
          go_wp2_with fail
          refine (is_errv bs 115 _ (h2.below ((Below.refl _ _).alloc (Nat.le_refl _) _)) (by omega) _).mono ?_
          rintro e w3 ⟨rfl, hb3⟩
          go_wp2
          go_ret
          exact ⟨rfl, hb1.trans ((hb2.trans (below_put (Below.refl _ _) (by omega) _ hb3)).mono z1)⟩
        · have hbS : bad (⟨#[120]⟩ ++ s) = 114 := by show Path.bad _ = _; rw [app_list, hs, show (⟨#[120]⟩ : ByteArray).data.toList ++ Path.base k = 120 :: Path.base k from rfl, Path.bad_x, if_neg hL]
          go_wp2_with fail
          generalize (⟨#[120]⟩ ++ s : ByteArray) = S at *
          clear hsz
          refine (parse_w bs S _ h1 (by omega)).mono ?_
          rintro e w2 ⟨v, rfl, own, hb2⟩
          have h2 := h1.below hb2
          have z2 := hb2.size
          obtain ⟨va, vc, rfl, hT⟩ := texts_of own
          rw [hbS]
          clear own hT
          go_wp2_with fail
          refine (is_errv bs 114 _ (h2.below ((Below.refl _ _).alloc (Nat.le_refl _) _)) (by omega) _).mono ?_
          rintro e w3 ⟨rfl, hb3⟩
          go_wp2
          go_ret
          exact ⟨rfl, hb1.trans ((hb2.trans (below_put (Below.refl _ _) (by omega) _ hb3)).mono z1)⟩
      by_cases q3 : q = 3
      · subst q3
        have hz : (s ++ ⟨#[0]⟩).size = 3 * k + 2 := by rw [ByteArray.size_append, hsz]; rfl
        by_cases hL : 256 < 3 * k + 2
        · have hbS : bad (s ++ ⟨#[0]⟩) = 115 := by show Path.bad _ = _; rw [app_list, hs, show (⟨#[0]⟩ : ByteArray).data.toList = [0] from rfl, Path.bad_nothing, if_pos hL]
          go_wp2_with fail
          generalize (s ++ ⟨#[0]⟩ : ByteArray) = S at *
          clear hsz
          refine (parse_w bs S _ h1 (by omega)).mono ?_
          rintro e w2 ⟨v, rfl, own, hb2⟩
          have h2 := h1.below hb2
          have z2 := hb2.size
          obtain ⟨va, vc, rfl, hT⟩ := texts_of own
          rw [hbS]
          clear own hT
          go_wp2_with fail
          refine (is_errv bs 115 _ (h2.below ((Below.refl _ _).alloc (Nat.le_refl _) _)) (by omega) _).mono ?_
          rintro e w3 ⟨rfl, hb3⟩
          go_wp2
          go_ret
          exact ⟨rfl, hb1.trans ((hb2.trans (below_put (Below.refl _ _) (by omega) _ hb3)).mono z1)⟩
        · have hbS : bad (s ++ ⟨#[0]⟩) = 114 := by show Path.bad _ = _; rw [app_list, hs, show (⟨#[0]⟩ : ByteArray).data.toList = [0] from rfl, Path.bad_nothing, if_neg hL]
          go_wp2_with fail
          generalize (s ++ ⟨#[0]⟩ : ByteArray) = S at *
          clear hsz
          refine (parse_w bs S _ h1 (by omega)).mono ?_
          rintro e w2 ⟨v, rfl, own, hb2⟩
          have h2 := h1.below hb2
          have z2 := hb2.size
          obtain ⟨va, vc, rfl, hT⟩ := texts_of own
          rw [hbS]
          clear own hT
          go_wp2_with fail
          refine (is_errv bs 114 _ (h2.below ((Below.refl _ _).alloc (Nat.le_refl _) _)) (by omega) _).mono ?_
          rintro e w3 ⟨rfl, hb3⟩
          go_wp2
          go_ret
          exact ⟨rfl, hb1.trans ((hb2.trans (below_put (Below.refl _ _) (by omega) _ hb3)).mono z1)⟩
      by_cases q1 : q = 1
      · subst q1
        have hbS : bad ⟨#[]⟩ = 109 := rfl
        go_wp2_with fail
        refine (parse_w bs ⟨#[]⟩ _ h1 (by decide)).mono ?_
        rintro e w2 ⟨v, rfl, own, hb2⟩
        have h2 := h1.below hb2
        have z2 := hb2.size
        obtain ⟨va, vc, rfl, hT⟩ := texts_of own
        rw [hbS]
        clear own hT
        go_wp2_with fail
        refine (is_errv bs 109 _ (h2.below ((Below.refl _ _).alloc (Nat.le_refl _) _)) (by omega) _).mono ?_
        rintro e w3 ⟨rfl, hb3⟩
        go_wp2
        go_ret
        exact ⟨rfl, hb1.trans ((hb2.trans (below_put (Below.refl _ _) (by omega) _ hb3)).mono z1)⟩
      · obtain rfl : q = 4 := by omega
        have hbS : bad (s ++ ⟨#[97, 97, 97, 97, 97, 97, 97, 97, 97, 97, 97, 97, 97, 97, 97, 97, 97, 97, 97, 97, 97, 97, 97, 97, 97]⟩) = 115 := by show Path.bad _ = _; rw [app_list, hs, show (⟨#[97, 97, 97, 97, 97, 97, 97, 97, 97, 97, 97, 97, 97, 97, 97, 97, 97, 97, 97, 97, 97, 97, 97, 97, 97]⟩ : ByteArray).data.toList = List.replicate 25 97 from rfl, Path.bad_part]
        have hz : (s ++ ⟨#[97, 97, 97, 97, 97, 97, 97, 97, 97, 97, 97, 97, 97, 97, 97, 97, 97, 97, 97, 97, 97, 97, 97, 97, 97]⟩).size = 3 * k + 26 := by rw [ByteArray.size_append, hsz]; rfl
        by_cases hL : 256 < 3 * k + 26
        · skip
          go_wp2_with fail
          generalize (s ++ ⟨#[97, 97, 97, 97, 97, 97, 97, 97, 97, 97, 97, 97, 97, 97, 97, 97, 97, 97, 97, 97, 97, 97, 97, 97, 97]⟩ : ByteArray) = S at *
          clear hsz
          refine (parse_w bs S _ h1 (by omega)).mono ?_
          rintro e w2 ⟨v, rfl, own, hb2⟩
          have h2 := h1.below hb2
          have z2 := hb2.size
          obtain ⟨va, vc, rfl, hT⟩ := texts_of own
          rw [hbS]
          clear own hT
          go_wp2_with fail
          refine (is_errv bs 115 _ (h2.below ((Below.refl _ _).alloc (Nat.le_refl _) _)) (by omega) _).mono ?_
          rintro e w3 ⟨rfl, hb3⟩
          go_wp2
          go_ret
          exact ⟨rfl, hb1.trans ((hb2.trans (below_put (Below.refl _ _) (by omega) _ hb3)).mono z1)⟩
        · skip
          go_wp2_with fail
          generalize (s ++ ⟨#[97, 97, 97, 97, 97, 97, 97, 97, 97, 97, 97, 97, 97, 97, 97, 97, 97, 97, 97, 97, 97, 97, 97, 97, 97]⟩ : ByteArray) = S at *
          clear hsz
          refine (parse_w bs S _ h1 (by omega)).mono ?_
          rintro e w2 ⟨v, rfl, own, hb2⟩
          have h2 := h1.below hb2
          have z2 := hb2.size
          obtain ⟨va, vc, rfl, hT⟩ := texts_of own
          rw [hbS]
          clear own hT
          go_wp2_with fail
          refine (is_errv bs 115 _ (h2.below ((Below.refl _ _).alloc (Nat.le_refl _) _)) (by omega) _).mono ?_
          rintro e w3 ⟨rfl, hb3⟩
          go_wp2
          go_ret
          exact ⟨rfl, hb1.trans ((hb2.trans (below_put (Below.refl _ _) (by omega) _ hb3)).mono z1)⟩

theorem walk (a0 a1 : Int) (w : World) (hA : Err.All w gl) (w0 : (Lit.int .i64 a0).wf = true) (w1 : (Lit.int .i64 a1).wf = true) :
    Calls Tryd.prog 3 #[.int .i64 a0, .int .i64 a1] w fun e w' => e = .returned (.bool true) ∧ Below w.heap.size w w' := by
  obtain ⟨bs, hB⟩ := bs_of hA
  exact done bs a0 a1 w hB (int_of w0).1 (int_of w0).2 (int_of w1).1 (int_of w1).2
end Go.Proofs.YtnngckdjkmknhaaDoor.pathWrong
