/- What the laws on pairs begin with: a block, pairs on a new device. -/
import Derived.Test.YtjecnjgngahmfaaDoorPairWrite
import Derived.Test.YtjecnjgngahmfaaDoorPairPlain
import Derived.Test.YtjecnjgngahmfaaDoorGeoOf
namespace Go.Proofs.YtjecnjgngahmfaaDoor.PairW
open Go Go.RowKit Go.Maps Go.Proofs.YtjecnjgngahmfaaDoor.Mem Go.Proofs.YtjecnjgngahmfaaDoor.MapsW Go.Proofs.YtjecnjgngahmfaaDoor.SeeW Go.Proofs.YtjecnjgngahmfaaDoor.DevW
set_option linter.unusedVariables false
set_option maxRecDepth 100000

/-- a slice of a block's bytes, new -/
def NewBlock (w : World) (l : List Nat) (e : Ending) (w' : World) : Prop := ∃ g cap, e = .returned (.slice (some ⟨g, 0, none⟩) 256 cap) ∧ Nums .u8 w' (some ⟨g, 0, none⟩) 256 cap l ∧ w.heap.size ≤ g ∧ Below w.heap.size w w'
set_option maxHeartbeats 1600000 in
theorem full_w (a : Option Addr) (n cap : Nat) (l : List Nat) (w : World) (h0 : Nums .u8 w a n cap l) (hn : n ≤ 256) :
    Calls Tryd.prog 20 #[.slice a n cap] w (NewBlock w (Crc.pad l)) := by
  have hll := h0.len
  have HL := hid hll
  obtain ⟨cb1, cb2⟩ := h0.bound
  go_enter Tryd.func20, Tryd.ntmps20
  go_wp2_with (at_make; go_must (refine wpList_mkn RefW.elU8 rfl _ _ rfl w.heap.size _ _ _ _ 256 rfl rfl rfl rfl (by decide) (by decide) (Nat.le_refl _) ?_); intro w2 own2 hg2)
  rw [RefW.made_nums] at own2
  have g2 := below_growns hg2 (Nat.le_refl _)
  clear hg2
  go_loopw [4] (fun i wr => ∃ k : Nat, k ≤ n ∧ i = .int .i64 k ∧ OwnN wr w.heap.size 5 .u8 w.heap.size 256 256 (l.take k ++ List.replicate (256 - k) 0) ∧ Below w.heap.size w wr) (fun i _ => n - (intOf i).toNat)
  case atStart => exact ⟨0, by omega, rfl, by simpa using own2, g2⟩
  case round =>
    clear own2 g2
    obtain ⟨k, hk, rfl, hown, hb⟩ := hrel
    by_cases hlt : k < n
    · have hkl : k < l.length := by rw [HL.out]; exact hlt
      have HF := hid (Crc.pad_set hkl (by rw [HL.out]; exact hn))
      obtain ⟨b0, o0, rfl, hc0⟩ := (h0.below hb).at hkl
      generalize l[k] = x at hc0 HF
      have hlen : (l.take k ++ List.replicate (256 - k) 0).length = 256 := OwnN.len hown
      obtain ⟨y, hy⟩ : ∃ y, wr.cell? ⟨w.heap.size, k, none⟩ = some y := ⟨_, OwnN.cell hown (j := k) (by omega)⟩
      have hf := World.ownsRow.frozenAt hown k
      have k256 : (k : Int) < 256 := by omega
      have HO := hid hown
      clear hown hlen hll
      go_wp2
      go_roundw
      case rel => exact ⟨k + 1, by omega, by go_num, by rw [← HF.out]; exact OwnN.set HO.out k x, hb.setCell (Nat.le_refl _) _⟩
      case measure => simp [intOf]; omega
    · obtain rfl : k = n := by omega
      rw [List.take_of_length_le (by omega)] at hown
      have HO := hid hown
      have e : l ++ List.replicate (256 - k) 0 = Crc.pad l := by unfold Crc.pad; rw [hll]
      clear hown
      go_wp2
      go_ret
      rw [e] at HO
      exact ⟨_, _, rfl, OwnN.nums HO.out, Nat.le_refl _, hb⟩

theorem block_w (a : Option Addr) (n cap : Nat) (l : List Nat) (w : World) (h0 : Nums .u8 w a n cap l) (hn : n ≤ 256) :
    Calls Tryd.prog 31 #[.slice a n cap] w (NewBlock w (Crc.pad l)) := by
  go_enter Tryd.func31, Tryd.ntmps31
  go_wp2_with fail
  refine (full_w a n cap l _ h0 hn).mono ?_
  rintro e w' ⟨g, gc, rfl, h1, h2, h3⟩
  go_wp2
  go_ret
  exact ⟨g, gc, rfl, h1, h2, h3⟩

/-- pairs on a new device -/
def Opened (b : Nat) (w : World) (e : Ending) (w' : World) : Prop := ∃ p, e = .returned (.tuple #[ptr p, ptr (w.heap.size + 5)]) ∧ PAt w' w.heap.size (w.heap.size + 5) 0 (mp w.heap.size) (Dv.new b) p (GeoW.half b) 0 ∧ Below w.heap.size w w'
set_option maxHeartbeats 1600000 in
theorem popen_w (b : Nat) (lo d n : Nat) (m : Mp) (D : Dv) (w : World) (k : At w lo d n m D) (h1 : 300 ≤ D.blocks) (h2 : D.blocks ≤ 6000) (hlo : lo ≤ w.heap.size) :
    Calls Tryd.prog 68 #[ptr d] w fun e w' => ∃ p, e = .returned (.tuple #[ptr p, .nilIface]) ∧ PAt w' lo d n m D p (GeoW.half D.blocks) 0 ∧ Below w.heap.size w w' := by
  go_enter Tryd.func68, Tryd.ntmps68
  go_wp2_with fail
  refine (DevW.blocks_w d lo n m D _ k).mono ?_
  rintro e w' ⟨rfl, rfl⟩
  go_wp2_with fail
  refine (GeoW.of_good D.blocks _ h1 h2).mono ?_
  rintro e w1 ⟨rfl, hb1⟩
  have k1 := k.below hb1
  have hhf := GeoW.half_le D.blocks
  have z1 := hb1.size
  go_wp2
  have bb : ∀ o o', Below w1.heap.size w1 ((w1.alloc o).alloc o') := fun o o' => ((Below.refl _ w1).alloc (Nat.le_refl _) o).alloc (by simp) o'
  refine bodyPost_ret (v := .tuple #[ptr (w1.heap.size + 1), .nilIface]) (by simp [results, Tryd.results68, go_sem]) rfl ⟨w1.heap.size + 1, rfl, ⟨k1.below (bb _ _), alloc_at (by simp) _, hhf, h2, by omega⟩, hb1.trans ((bb _ _).mono z1)⟩

set_option maxHeartbeats 1600000 in
theorem opened_w (b : Nat) (w : World) (h1 : 300 ≤ b) (h2 : b ≤ 6000) :
    Calls Tryd.prog 29 #[.int .i64 b] w (Opened b w) := by
  go_enter Tryd.func29, Tryd.ntmps29
  go_wp2_with fail
  refine (DevW.new_w b _ (by omega) h2).mono ?_
  rintro e w1 ⟨rfl, k1, hb1, hs1⟩
  go_wp2_with fail
  refine (popen_w b _ _ _ _ _ _ k1 h1 h2 (by omega)).mono ?_
  rintro e w2 ⟨p, rfl, k2, hb2⟩
  go_wp2
  refine bodyPost_ret (v := .tuple #[ptr p, ptr (w.heap.size + 5)]) (by simp [results, Tryd.results29, go_sem]) rfl ⟨p, rfl, k2, hb1.trans (hb2.mono (by omega))⟩

set_option maxHeartbeats 1600000 in
/-- has a block these bytes? -/
theorem good_w (bs : List Addr) (d lo n : Nat) (m : Mp) (D : Dv) (i : Nat) (a : Option Addr) (len cap : Nat) (l : List Nat) (w : World) (h : At w lo d n m D) (hB : Fv w bs) (hi : i < D.blocks) (hb : D.blocks ≤ 6000) (hl : Nums .u8 w a len cap l) :
    Calls Tryd.prog 36 #[ptr d, .int .i64 i, .slice a len cap] w fun e w' => e = .returned (.bool (decide (D.read i = some l))) ∧ Below w.heap.size w w' := by
  have hr := DevW.read_w bs d lo n m D i w h hB hi hb
  cases hD : D.read i with
  | none =>
    rw [hD] at hr
    go_enter Tryd.func36, Tryd.ntmps36
    go_wp2_with fail
    refine hr.mono ?_
    rintro e w1 ⟨⟨aI, haI, rfl⟩, hb1⟩
    go_wp2
    go_ret
    exact ⟨ret_bool (by simp), hb1⟩
  | some l' =>
    rw [hD] at hr
    go_enter Tryd.func36, Tryd.ntmps36
    go_wp2_with fail
    refine hr.mono ?_
    rintro e w1 ⟨⟨g, gc, rfl, hn, hg⟩, hb1⟩
    have z1 := hb1.size
    go_wp2_with fail
    refine (RefW.same_w _ 256 gc l' a len cap l _ hn (hl.below hb1)).mono ?_
    rintro e w2 ⟨rfl, hb2⟩
    go_wp2
    go_ret
    exact ⟨ret_bool (by simp), hb1.trans (hb2.mono z1)⟩
end Go.Proofs.YtjecnjgngahmfaaDoor.PairW
