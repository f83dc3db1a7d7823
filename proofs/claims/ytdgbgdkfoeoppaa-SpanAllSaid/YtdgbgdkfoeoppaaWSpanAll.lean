/- The walk of SpanAll. -/
import Derived.Test.YtdgbgdkfoeoppaaSpanWalk
import Derived.Test.YtdgbgdkfoeoppaaSpanFirst
import Derived.Test.YtdgbgdkfoeoppaaNumWalk
namespace Go.Proofs.Ytdgbgdkfoeoppaa.spanAll
open Go Go.RowKit Go.Proofs.Ytdgbgdkfoeoppaa.Mem Go.Proofs.Ytdgbgdkfoeoppaa.SpanW
set_option linter.unusedVariables false
set_option maxRecDepth 100000

/-- what a round meets -/
theorem meets {L : List (Nat × Nat × Nat)} {k pos rem : Nat} (hd : L.drop k = Span.pcs pos rem) (hk : k < L.length) (h0 : 0 < k → 0 < rem → pos % 256 = 0) :
    ∃ I F T, L[k] = (I, F, T) ∧ I * 256 + F = pos ∧ F < T ∧ T ≤ 256 ∧ T - F ≤ rem ∧ (0 < k → F = 0) ∧ (k + 1 < L.length → T = 256) ∧ L.drop (k + 1) = Span.pcs (pos + (T - F)) (rem - (T - F)) ∧ (0 < rem - (T - F) → (pos + (T - F)) % 256 = 0) := by
  have hr : 0 < rem := by
    rcases Nat.eq_zero_or_pos rem with h | h
    · subst h
      rw [Span.pcs_zero] at hd
      have := congrArg List.length hd
      simp at this; omega
    · exact h
  rw [Span.pcs_step pos rem hr, List.drop_eq_getElem_cons hk] at hd
  have h1 := List.cons.inj hd
  refine ⟨_, _, _, h1.1, by omega, by omega, by omega, by omega, fun hk0 => h0 hk0 hr, ?_, ?_, by omega⟩
  · intro hlt
    have h2 : L.drop (k + 1) ≠ [] := by
      intro h
      have := congrArg List.length h
      simp at this; omega
    rw [h1.2] at h2
    have h3 : 0 < rem - min rem (256 - pos % 256) := by
      rcases Nat.eq_zero_or_pos (rem - min rem (256 - pos % 256)) with h | h
      · rw [h, Span.pcs_zero] at h2; exact absurd rfl h2
      · exact h
    omega
  · rw [h1.2]; congr 1 <;> omega

set_option maxHeartbeats 3200000 in
theorem done (a0 a1 : Int) (w : World) (l0 : -9223372036854775808 ≤ a0) (u0 : a0 ≤ 9223372036854775807) (l1 : -9223372036854775808 ≤ a1) (u1 : a1 ≤ 9223372036854775807) :
    Calls Try.prog 3 #[.int .i64 a0, .int .i64 a1] w fun e w' => e = .returned (.bool true) ∧ Below w.heap.size w w' := by
  obtain ⟨q, hq⟩ : ∃ q : Int, q = if a0 < 0 then -(a0 + 1) else a0 := ⟨_, rfl⟩
  have hq0 : 0 ≤ q := by split at hq <;> omega
  have hqm := Int.emod_nonneg q (b := 100000) (by omega)
  have hql := Int.emod_lt_of_pos q (b := 100000) (by omega)
  obtain ⟨p, hp⟩ := Int.eq_ofNat_of_zero_le hqm
  have HP := hid hp
  rw [hp] at hql
  clear hp hqm
  have hnm := Int.emod_nonneg a1 (b := 3000) (by omega)
  have hnl := Int.emod_lt_of_pos a1 (b := 3000) (by omega)
  obtain ⟨n, hn⟩ := Int.eq_ofNat_of_zero_le hnm
  have HN := hid hn
  rw [hn] at hnl
  clear hn hnm
  have HT : Hid (q.tmod 100000 = (p : Int)) := hid (by rw [Int.tmod_eq_emod_of_nonneg hq0]; exact HP.out)
  have HQL := hid hql
  have HNL := hid hnl
  clear hql hnl
  rcases Int.lt_or_le a0 0 with h | h
  case' inl =>
    rw [if_pos h] at hq
    subst hq
    go_enter Try.func3, Try.ntmps3
    go_wp2_with fail
    refine (first_w _).mono ?_
    rintro e w1 ⟨rfl, hb1⟩
    go_wp2_with fail
    rw [← Int.neg_tmod, HT.out]
  case' inr =>
    rw [if_neg (by omega)] at hq
    subst hq
    rw [Int.tmod_eq_emod_of_nonneg h] at HT
    have hge : decide (q < 0) = false := by rw [decide_eq_false_iff_not]; omega
    go_enter Try.func3, Try.ntmps3
    go_wp2_with fail
    refine (first_w _).mono ?_
    rintro e w1 ⟨rfl, hb1⟩
    go_wp2_with fail
    rw [HT.out]
  all_goals
    clear l0 u0 h hq0 HP HT
    refine (NumW.number_w a1 3000 _ (by omega) (by omega) l1 u1).mono ?_
    rintro e w' ⟨rfl, rfl⟩
    rw [HN.out]
    clear l1 u1 HN
    have hql : p < 100000 := by have := HQL.out; omega
    have hnl : n < 3000 := by have := HNL.out; omega
    clear HQL HNL
    have z1 := hb1.size
    go_wp2_with fail
    refine (pieces_w p n w1 (by omega) (by omega)).mono ?_
    rintro e w2 ⟨v2, rfl, own2, hb2⟩
    have z2 := hb2.size
    obtain ⟨la, lc, rfl, hrow⟩ := ownsRow_slice own2
    have hlc : (Span.pcs p n).length ≤ n := Span.pcs_length n p
    have HL0 := hid (show Span.pcs p n = [] → n = 0 from Span.pcs_nil)
    have HL1 := hid (show n = 0 → Span.pcs p n = [] from fun h => by subst h; rfl)
    have hd0 : (Span.pcs p n).drop 0 = Span.pcs p n := rfl
    generalize hLL : Span.pcs p n = L at *
    have HD0 : Hid (L.drop 0 = Span.pcs p n) := hid (by rw [hLL]; rfl)
    clear hd0 hLL hrow
    go_wp2_with fail
    go_loopw [6, 8] (fun x i wr => ∃ k pos rem : Nat, i = .int .i64 k ∧ x = .int .i64 pos ∧ k ≤ L.length ∧ L.drop k = Span.pcs pos rem ∧ pos + rem = p + n ∧ (0 < k → 0 < rem → pos % 256 = 0) ∧ Below w2.heap.size w2 wr) (fun _ i _ => L.length - (intOf i).toNat)
    case atStart => exact ⟨0, p, n, rfl, rfl, by omega, HD0.out, rfl, by omega, Below.refl _ _⟩
    case round =>
      obtain ⟨k, pos, rem, rfl, rfl, hk, hdrop, hpr, hal, hb⟩ := hrel
      have own := ownsRow_below own2 hb
      by_cases hlt : k < L.length
      · obtain ⟨I, F, T, hL, h1, h2, h3, h4, h5, h6, h7, h8⟩ := meets hdrop hlt hal
        obtain ⟨g, rfl⟩ := own_some own (by omega)
        obtain ⟨c0, c1, c2⟩ := piece_at own hlt
        rw [hL] at c0 c1 c2
        simp only at c0 c1 c2
        have H7 := hid h7
        have H8 := hid h8
        clear hdrop hal h7 h8 hL own own2
        have ht1 : (((I : Int) * 256 + (F : Int)) != (pos : Int)) = false := by rw [bne_eq_false_iff_eq]; omega
        have hI : I ≤ 1000 := by omega
        have hpos : pos ≤ 103000 := by omega
        have H1 := hid h1
        have HPR := hid hpr
        clear h1 hpr
        have H5 := hid h5
        have H6 := hid h6
        clear h5 h6
        have hend : ∀ (wz : World), Below w2.heap.size w2 wz → (∃ k_1 pos_1 rem_1 : Nat, (Value.int .i64 ((k : Int) + 1)) = .int .i64 k_1 ∧ (Value.int .i64 ((pos : Int) + ((T : Int) - (F : Int)))) = .int .i64 pos_1 ∧ k_1 ≤ L.length ∧ L.drop k_1 = Span.pcs pos_1 rem_1 ∧ pos_1 + rem_1 = p + n ∧ (0 < k_1 → 0 < rem_1 → pos_1 % 256 = 0) ∧ Below w2.heap.size w2 wz) := fun wz hbz =>
          ⟨k + 1, pos + (T - F), rem - (T - F), by go_num, congrArg (Value.int .i64) (by omega), by omega, H7.out, by have := HPR.out; omega, fun _ => H8.out, hbz⟩
        have HEND := hid hend
        clear hend
        have q1 : decide ((256 : Int) < (T : Int)) = false := by rw [decide_eq_false_iff_not]; omega
        have q2 : (T : Int) ≤ 256 := by omega
        have q0 : decide (T ≤ F) = false := by rw [decide_eq_false_iff_not]; omega
        by_cases hk0 : 0 < k
        · have hF : ((F : Int) != 0) = false := by rw [bne_eq_false_iff_eq]; have := H5.out hk0; omega
          by_cases hk1 : k + 1 < L.length
          · have hT : ((T : Int) != 256) = false := by rw [bne_eq_false_iff_eq]; have := H6.out hk1; omega
            have q3 : (k : Int) + 1 < (L.length : Int) := by omega
            go_wp2
            go_roundw
            case rel => exact HEND.out _ (hb.alloc hb.size _)
            case measure => simp [intOf]; omega
          · have q3 : decide ((k : Int) + 1 < (L.length : Int)) = false := by rw [decide_eq_false_iff_not]; omega
            have q4 : ¬ (k : Int) + 1 < (L.length : Int) := by omega
            go_wp2
            go_roundw
            case rel => exact HEND.out _ (hb.alloc hb.size _)
            case measure => simp [intOf]; omega
        · obtain rfl : k = 0 := by omega
          by_cases hk1 : 0 + 1 < L.length
          · have hT : ((T : Int) != 256) = false := by rw [bne_eq_false_iff_eq]; have := H6.out hk1; omega
            have q3 : (1 : Int) < (L.length : Int) := by omega
            go_wp2
            go_roundw
            case rel => exact HEND.out _ (hb.alloc hb.size _)
            case measure => simp [intOf]; omega
          · have q3 : decide ((1 : Int) < (L.length : Int)) = false := by rw [decide_eq_false_iff_not]; omega
            have q4 : ¬ (1 : Int) < (L.length : Int) := by omega
            go_wp2
            go_roundw
            case rel => exact HEND.out _ (hb.alloc hb.size _)
            case measure => simp [intOf]; omega
      · obtain rfl : k = L.length := by omega
        have hrem : rem = 0 := by
          have : Span.pcs pos rem = [] := by rw [← hdrop]; simp
          exact Span.pcs_nil this
        subst hrem
        rw [Nat.add_zero] at hpr
        subst hpr
        have hLn : (L.length = 0 ↔ n = 0) := ⟨fun h => HL0.out (List.eq_nil_of_length_eq_zero h), fun h => by rw [HL1.out h]; rfl⟩
        have hLt : (((L.length : Int) == 0) == ((n : Int) == 0)) = true := by
          have := beq_cast (a := L.length) (b := 0) (c := n) (d := 0) hLn
          exact this
        clear hdrop hal own own2 hLn hlt hk
        go_wp2_with fail
        refine (pieces_neg (-1) n _ (by omega) (by omega) (by omega) (by omega)).mono ?_
        rintro e w' ⟨rfl, rfl⟩
        go_wp2_with fail
        go_ret
        exact ⟨rfl, hb1.trans ((hb2.trans (hb.mono z2)).mono z1)⟩

theorem walk (a0 : Int) (a1 : Int) (w : World) (w0 : (Lit.int .i64 a0).wf = true) (w1 : (Lit.int .i64 a1).wf = true) :
    Calls Try.prog 3 #[.int .i64 a0, .int .i64 a1] w fun e w' => e = .returned (.bool true) ∧ Below w.heap.size w w' :=
  done a0 a1 w (int_of w0).1 (int_of w0).2 (int_of w1).1 (int_of w1).2
end Go.Proofs.Ytdgbgdkfoeoppaa.spanAll
