/- The chapter's example, the table, and the document's sum: walks. -/
import Derived.Lib.SlBytesConst
import Derived.Test.YtdgbgdkfoeoppaaCrcWalk
namespace Go.Proofs.Ytdgbgdkfoeoppaa.CrcL
open Go Go.RowKit Go.Proofs.Ytdgbgdkfoeoppaa.Mem Go.Proofs.Ytdgbgdkfoeoppaa.RefW Go.Proofs.Ytdgbgdkfoeoppaa.CrcW
set_option linter.unusedVariables false
set_option maxRecDepth 100000

theorem elU32 : El Try.prog 36 31 (.int .u32 0) 1 4 := ⟨Try.underlying36, by kernel_rfl, rfl, by decide⟩

set_option maxHeartbeats 800000 in
/-- the table -/
theorem table_w (w : World) :
    Calls Try.prog 19 #[] w fun e w' => ∃ g, e = .returned (.slice (some ⟨g, 0, none⟩) 256 256) ∧ OwnN w' w.heap.size 31 .u32 g 256 256 (Crc.tab 256) ∧ Below w.heap.size w w' := by
  go_enter Try.func19, Try.ntmps19
  go_wp2_with (at_make; go_must (refine wpList_mkn elU32 rfl _ _ rfl w.heap.size .i64 .i64 _ _ 256 rfl rfl rfl rfl (by omega) (by unfold maxLen; omega) (Nat.le_refl _) ?_); intro w0 hown0 hgrow0)
  rw [made_nums, ← Crc.tab_zero] at hown0
  have hb0 := below_growns hgrow0 (Nat.le_refl w.heap.size)
  clear hgrow0
  go_loopw [6] (fun i wr => ∃ k : Nat, k ≤ 256 ∧ i = .int .i64 k ∧ OwnN wr w.heap.size 31 .u32 w.heap.size 256 256 (Crc.tab k) ∧ Below w.heap.size w wr) (fun i _ => 256 - (intOf i).toNat)
  case atStart => exact ⟨0, by omega, rfl, hown0, hb0⟩
  case round =>
    obtain ⟨k, hk, rfl, hown, hb⟩ := hrel
    by_cases hlt : k < 256
    · obtain ⟨c0, hc⟩ : ∃ c0, wr.cell? ⟨w.heap.size, k, none⟩ = some c0 := ⟨_, hown.cell (j := k) (by rw [Crc.tab_length]; omega)⟩
      have hf := World.ownsRow.frozenAt hown k
      have HN := hid (OwnN.set hown k (Crc.step k))
      have HS := hid (Crc.tab_set k hlt)
      clear hown hown0 hb0
      have hkW : k < Crc.W := by unfold Crc.W; omega
      go_wp2_with (go_at_call 30; refine (step_w k hkW _).mono ?_; rintro e w' ⟨rfl, rfl⟩)
      go_roundw
      case rel => exact ⟨k + 1, by omega, by go_num, by rw [← HS.out]; exact HN.out, hb.setCell (by simp) _⟩
      case measure => simp [intOf]; omega
    · obtain rfl : k = 256 := by omega
      go_wp2
      go_ret
      exact ⟨_, rfl, hown, hb⟩


set_option maxHeartbeats 400000 in
/-- the chapter's example -/
theorem first_w (w : World) : Calls Try.prog 15 #[] w fun e w' => e = .returned (.bool true) ∧ Below w.heap.size w w' := by
  have kc := fun (w : World) (C : Array Value) (n c : Nat) => Lib.run_convert_bytes_const (P := Try.prog) w 29 5 C n c Try.underlying29 Try.underlying5
  go_enter Try.func15, Try.ntmps15
  go_wp2_with fail
  refine (sum_w _ _ _ [49, 50, 51, 52, 53, 54, 55, 56, 57] _ (Row.fresh _ _ _ _ 9 rfl (by decide)) (by unfold Crc.Bytes; decide)).mono ?_
  rintro e w' ⟨rfl, rfl⟩
  have hs : Crc.sum [49, 50, 51, 52, 53, 54, 55, 56, 57] = 3808858755 := by decide +kernel
  rw [hs]
  go_wp2_with fail
  go_ret
  exact ⟨rfl, (Below.refl _ _).alloc (Nat.le_refl _) _⟩

theorem mod_byte {s c : Nat} (hc : c < 256) : bits .xor .u8 ((s : Int) % 256) (c : Int) = (((s % 256) ^^^ c : Nat) : Int) := by
  have := u8_xor_nat (s % 256) c (Nat.mod_lt _ (by decide)) hc
  simpa using this

set_option maxHeartbeats 1600000 in
/-- the sum by the table -/
theorem with_w (a : Option Addr) (n cap : Nat) (l : List Nat) (g c : Nat) (base : Nat) (w : World) (hr : Nums .u8 w a n cap l) (hb : Crc.Bytes l) (ht : OwnN w base 31 .u32 g 256 c (Crc.tab 256)) :
    Calls Try.prog 25 #[.slice (some ⟨g, 0, none⟩) 256 c, .slice a n cap] w fun e w' => e = .returned (.int .u32 (Crc.sum l)) ∧ w = w' := by
  have hbd := hr.bound
  obtain ⟨hb1, hb2⟩ := hbd
  have HL : Hid (l.length = n) := hr.len
  have HT := hid ht
  clear ht
  go_enter Try.func25, Try.ntmps25
  go_wp2
  go_loop [5, 13] (fun s i => ∃ k : Nat, k ≤ n ∧ i = .int .i64 k ∧ s = .int .u32 (Crc.run (Crc.W - 1) (l.take k))) (fun _ i => n - (intOf i).toNat)
  case atStart => exact ⟨0, by omega, rfl, congrArg (Value.int .u32) (show (4294967295 : Int) = ((Crc.W - 1 : Nat) : Int) by decide)⟩
  case round =>
    obtain ⟨k, hk, rfl, rfl⟩ := hrel
    have hm : Crc.run (Crc.W - 1) (l.take k) < 4294967296 := Crc.run_lt _ Crc.top_lt (Bytes_take hb k)
    by_cases hlt : k < n
    · have hkl : k < l.length := by rw [HL.out]; exact hlt
      obtain ⟨b, off, rfl, hc⟩ := hr.at hkl
      have hcb : l[k] < 256 := hb _ (List.getElem_mem _)
      have HS : Hid (Crc.run (Crc.W - 1) (l.take (k + 1)) = Crc.step (Crc.run (Crc.W - 1) (l.take k) ^^^ l[k])) := by
        show _ = _
        rw [take_snoc l k hkl, Crc.run_snoc]
      generalize l[k] = x at hc hcb HS
      generalize Crc.run (Crc.W - 1) (l.take k) = m at hm HS ⊢
      rw [Crc.step_tab] at HS
      have hx := mod_byte (s := m) hcb
      have hxl : (m % 256) ^^^ x < 256 := Crc.xor_byte (Nat.mod_lt _ (by decide)) hcb
      generalize (m % 256) ^^^ x = y at hx hxl HS
      have htc : w.cell? ⟨g, y, none⟩ = some (.int .u32 ((Crc.step y : Nat) : Int)) := by
        have := OwnN.cell HT.out (j := y) (by rw [Crc.tab_length]; exact hxl)
        rw [this]
        have h2 := Crc.tab_at hxl
        rw [List.getElem?_eq_getElem (by rw [Crc.tab_length]; exact hxl)] at h2
        rw [Option.some.inj h2]
      have hyW : Crc.step y < 4294967296 := Crc.step_lt (Crc.byte_lt hxl)
      generalize Crc.step y = z at htc hyW HS
      have hz := u32_xor_nat z (m / 256) hyW (by omega)
      clear hr
      go_wp2
      go_round
      case rel => exact ⟨k + 1, by omega, by go_num, by rw [HS.out, show ((m : Int) / 256) = ((m / 256 : Nat) : Int) by omega, hz]⟩
      case measure => simp [intOf]; omega
    · obtain rfl : k = n := by omega
      have HE : Hid (l.take k = l) := List.take_of_length_le (by rw [HL.out]; exact Nat.le_refl _)
      rw [HE.out] at hm ⊢
      generalize hs : Crc.run (Crc.W - 1) l = m at hm ⊢
      have HS : Hid (Crc.sum l = m ^^^ 4294967295) := by show _ = _; unfold Crc.sum; rw [hs]; rfl
      clear hs
      go_wp2
      go_ret
      exact ⟨ret_u32 (by rw [HS.out]; exact not_u32 m hm), rfl⟩

/-- a table that is none -/
theorem with_none (a t : Option Addr) (n cap m c : Nat) (w : World) (hm : m ≤ 9223372036854775807) (h : m ≠ 256) :
    Calls Try.prog 25 #[.slice t m c, .slice a n cap] w fun e w' => e = .returned (.int .u32 0) ∧ w = w' := by
  have hne : ((m : Int) != 256) = true := by rw [bne_iff_ne]; omega
  go_enter Try.func25, Try.ntmps25
  go_wp2
  go_ret
  exact ⟨rfl, rfl⟩

set_option maxHeartbeats 800000 in
/-- the document's step -/
theorem rstep_w (m c : Nat) (hm0 : m < 4294967296) (hc : c < 256) (w : World) :
    Calls Try.prog 23 #[.int .u32 m, .int .u8 c] w fun e w' => e = .returned (.int .u32 (Crc.step (m ^^^ c))) ∧ w = w' := by
  have hx := u32_xor_nat m c hm0 (by omega)
  have hxl : m ^^^ c < 4294967296 := Crc.xor_lt hm0 (Crc.byte_lt hc)
  generalize m ^^^ c = n at hx hxl ⊢
  go_enter Try.func23, Try.ntmps23
  go_wp2
  clear hx
  go_loop [0, 5] (fun x i => ∃ k : Nat, k ≤ 8 ∧ i = .int .i64 k ∧ x = .int .u32 (Crc.bits k n)) (fun _ i => 8 - (intOf i).toNat)
  case atStart => exact ⟨0, by omega, rfl, rfl⟩
  case round =>
    obtain ⟨k, hk, rfl, rfl⟩ := hrel
    have hm : Crc.bits k n < 4294967296 := Crc.bits_lt k hxl
    have hs : Hid (Crc.bits (k + 1) n = Crc.bit (Crc.bits k n)) := Crc.bits_snoc k n
    generalize he : Crc.bits k n = p at hm hs ⊢
    have HE := hid he
    clear he
    by_cases hlt : k < 8
    · go_wp2
      all_goals
        go_round
        case rel =>
          refine ⟨k + 1, by omega, by go_num, ?_⟩
          rw [hs.out]
          have hand : bits .and .u32 (p : Int) 1 = ((p % 2 : Nat) : Int) := by
            have := u32_and_nat p 1 hm (by omega)
            rw [Nat.and_one_is_mod] at this
            exact this
          rename_i hb
          rw [hand] at hb
          simp at hb
          unfold Crc.bit
          first
            | (rw [if_pos (by omega)]
               have := u32_xor_nat (p / 2) 2197175160 (by omega) (by omega)
               rw [show ((p : Int) / 2) = ((p / 2 : Nat) : Int) by omega]
               exact congrArg _ this)
            | (rw [if_neg (by omega)]; go_num)
        case measure => simp [intOf]; omega
    · obtain rfl : k = 8 := by omega
      go_wp2
      go_ret
      exact ⟨ret_u32 (by rw [Crc.step_def, HE.out]), rfl⟩

set_option maxHeartbeats 800000 in
/-- the document's sum -/
theorem rsum_w (a : Option Addr) (n cap : Nat) (l : List Nat) (w : World) (hr : Nums .u8 w a n cap l) (hb : Crc.Bytes l) :
    Calls Try.prog 24 #[.slice a n cap] w fun e w' => e = .returned (.int .u32 (Crc.sum l)) ∧ w = w' := by
  have hbd := hr.bound
  obtain ⟨hb1, hb2⟩ := hbd
  have HL : Hid (l.length = n) := hr.len
  go_enter Try.func24, Try.ntmps24
  go_wp2
  go_loop [3, 4] (fun s i => ∃ k : Nat, k ≤ n ∧ i = .int .i64 k ∧ s = .int .u32 (Crc.run (Crc.W - 1) (l.take k))) (fun _ i => n - (intOf i).toNat)
  case atStart => exact ⟨0, by omega, rfl, congrArg (Value.int .u32) (show (4294967295 : Int) = ((Crc.W - 1 : Nat) : Int) by decide)⟩
  case round =>
    obtain ⟨k, hk, rfl, rfl⟩ := hrel
    have hm : Crc.run (Crc.W - 1) (l.take k) < 4294967296 := Crc.run_lt _ Crc.top_lt (Bytes_take hb k)
    by_cases hlt : k < n
    · have hkl : k < l.length := by rw [HL.out]; exact hlt
      obtain ⟨b, off, rfl, hc⟩ := hr.at hkl
      have hcb : l[k] < 256 := hb _ (List.getElem_mem _)
      have HS : Hid (Crc.run (Crc.W - 1) (l.take (k + 1)) = Crc.step (Crc.run (Crc.W - 1) (l.take k) ^^^ l[k])) := by
        show _ = _
        rw [take_snoc l k hkl, Crc.run_snoc]
      generalize l[k] = c at hc hcb HS
      generalize Crc.run (Crc.W - 1) (l.take k) = m at hm HS ⊢
      clear hr
      go_wp2_with (go_at_call 23; refine (rstep_w m c hm hcb _).mono ?_; rintro e w' ⟨rfl, rfl⟩)
      go_round
      case rel => exact ⟨k + 1, by omega, by go_num, by rw [HS.out]⟩
      case measure => simp [intOf]; omega
    · obtain rfl : k = n := by omega
      have HE : Hid (l.take k = l) := List.take_of_length_le (by rw [HL.out]; exact Nat.le_refl _)
      rw [HE.out] at hm ⊢
      generalize hs : Crc.run (Crc.W - 1) l = m at hm ⊢
      have HS : Hid (Crc.sum l = m ^^^ 4294967295) := by show _ = _; unfold Crc.sum; rw [hs]; rfl
      clear hs
      go_wp2
      go_ret
      exact ⟨ret_u32 (by rw [HS.out]; exact not_u32 m hm), rfl⟩

set_option maxHeartbeats 1600000 in
/-- the document's: some of the bytes turned -/
theorem rturned_w (a : Option Addr) (n cap : Nat) (l : List Nat) (at_ : Int) (t : Nat) (w : World) (hr : Nums .u8 w a n cap l) (hbt : Crc.Bytes l) (hn : n ≤ 140737488355328)
    (hlo : -9223372036854775808 ≤ at_) (hhi : at_ ≤ 9223372036854775807) (ht : t < 4294967296) :
    Calls Try.prog 26 #[.slice a n cap, .int .i64 at_, .int .u32 t] w fun e w' => ∃ v, e = .returned v ∧ w'.ownsRow w.heap.size 5 1 v n (nums .u8 (Crc.turned l at_ t)) ∧ Below w.heap.size w w' := by
  have hbd := hr.bound
  obtain ⟨hb1, hb2⟩ := hbd
  have HL : Hid (l.length = n) := hr.len
  go_enter Try.func26, Try.ntmps26
  go_wp2_with fail
  refine (bytes_w a n cap l w hr hn).mono ?_
  rintro e w1 ⟨v1, rfl, own1, hb1⟩
  obtain ⟨a1, c1, rfl, _⟩ := ownsRow_slice own1
  clear hr
  have z1 := hb1.size
  have hcap : n ≤ c1 ∧ c1 ≤ 9223372036854775807 := by
    have h := (Row.owned own1).2; have := h.2.2.1; unfold maxLen at this; exact ⟨h.2.1, by omega⟩
  go_wp2
  go_loopw [8] (fun i wr => ∃ k : Nat, k ≤ 4 ∧ i = .int .i64 k ∧ wr.ownsRow w.heap.size 5 1 (.slice a1 n c1) n (nums .u8 (Crc.turnK l at_ t k)) ∧ Below w.heap.size w wr) (fun i _ => 4 - (intOf i).toNat)
  case atStart => exact ⟨0, by omega, rfl, own1, hb1⟩
  case round =>
    obtain ⟨k, hk, rfl, hown, hb⟩ := hrel
    have HT := hid (show Crc.turnK l at_ t (k + 1) = Crc.turn1 (Crc.turnK l at_ t k) at_ t k from rfl)
    have hbt' := Crc.turnK_bytes hbt at_ t k
    have HL' : Hid ((Crc.turnK l at_ t k).length = n) := hid (by rw [Crc.turnK_length]; exact HL.out)
    generalize he : Crc.turnK l at_ t k = m at hown HT hbt' HL'
    have HE := hid he
    clear he
    clear own1
    by_cases hlt : k < 4
    · by_cases hin : 0 ≤ at_ ∧ at_ < (n : Int) - k
      · obtain ⟨h0, h1⟩ := hin
        obtain ⟨p, rfl⟩ := Int.eq_ofNat_of_zero_le h0
        obtain ⟨g, rfl⟩ := own_some hown (by omega)
        have hpk : p + k < m.length := by rw [HL'.out]; omega
        have hc := OwnN.cell hown hpk
        have hf := World.ownsRow.frozenAt hown (p + k)
        have hcb : m[p + k] < 256 := hbt' _ (List.getElem_mem hpk)
        generalize hx : m[p + k] = x at hc hcb
        have HX := hid hx
        clear hx
        have HO := hid hown
        clear hown
        go_wp2
        go_roundw
        case rel =>
          refine ⟨k + 1, by omega, by go_num, ?_, hb.setCell (by simpa using (World.ownsRow.lt HO.out g rfl).1) _⟩
          rw [xor_byteOf x t k hcb, HT.out, turn1_in hpk HX.out]
          exact OwnN.set HO.out (p + k) _
        case measure => simp [intOf]; omega
      · rw [turn1_out (by rw [HL'.out]; exact hin)] at HT
        by_cases h0 : 0 ≤ at_
        · have h1 : (n : Int) - k ≤ at_ := by omega
          clear hin
          go_wp2
          go_roundw
          case rel => exact ⟨k + 1, by omega, by go_num, by rw [HT.out]; exact hown, hb⟩
          case measure => simp [intOf]; omega
        · have h1 : at_ < 0 := by omega
          clear hin h0
          go_wp2
          go_roundw
          case rel => exact ⟨k + 1, by omega, by go_num, by rw [HT.out]; exact hown, hb⟩
          case measure => simp [intOf]; omega
    · obtain rfl : k = 4 := by omega
      have HM : Hid (Crc.turned l at_ t = m) := hid (by rw [← HE.out]; rfl)
      go_wp2
      go_ret
      exact ⟨_, rfl, by rw [HM.out]; exact hown, hb⟩
end Go.Proofs.Ytdgbgdkfoeoppaa.CrcL
