/- A keep on a new device, over its store; a keep opened again; breviaryworld.Number: a number's rest; KeepRoom: what its walk leans on; An array of 100 bools in memory; small things of PageFaults; A keep over a device of which copies are wrong: opened again; Get; KeepFaults: what its walk leans on; Plain facts: roots of which copies were faulted. -/
import Derived.Test.YtbjfgdahfpfgdaaGreatDoorKeepFaultsP24
import Derived.Test.YtbjfgdahfpfgdaaGreatDoorKeepFaultsP20
import Derived.Test.YtbjfgdahfpfgdaaGreatDoorProg
import Derived.Test.YtbjfgdahfpfgdaaGreatDoorKeepFaultsP1
import Derived.Deep.OwnRows
import Derived.Test.YtbjfgdahfpfgdaaGreatDoorKeepFaultsP23
import Derived.Test.YtbjfgdahfpfgdaaGreatDoorKeepFaultsP12
import Derived.Test.YtbjfgdahfpfgdaaGreatDoorKeepFaultsP19
import Derived.Test.YtbjfgdahfpfgdaaGreatDoorKeepFaultsP7
namespace Go.Proofs.YtbjfgdahfpfgdaaGreatDoor.KeepW
open Go Go.RowKit Go.Maps Go.Proofs.YtbjfgdahfpfgdaaGreatDoor.Mem Go.Proofs.YtbjfgdahfpfgdaaGreatDoor.MapsW Go.Proofs.YtbjfgdahfpfgdaaGreatDoor.DevG Go.Proofs.YtbjfgdahfpfgdaaGreatDoor.Text Go.Proofs.YtbjfgdahfpfgdaaGreatDoor.KeepP Go.Proofs.YtbjfgdahfpfgdaaGreatDoor.SeeW Go.Proofs.YtbjfgdahfpfgdaaGreatDoor.PgP Go.Proofs.YtbjfgdahfpfgdaaGreatDoor.RootP Go.Proofs.YtbjfgdahfpfgdaaGreatDoor.PgW
set_option linter.unusedVariables false
set_option maxRecDepth 100000

set_option maxHeartbeats 1600000 in
theorem kopen0_w (bs : List Addr) (lo b n c s d ep : Nat) (w : World) (h : Store [] bs w lo b n c s d (fun _ => none) (fun _ => none) ep) :
    Calls Tryz.prog 69 #[ptr s] w fun e w' => (∃ k l, e = .returned (.tuple #[ptr k, .nilIface]) ∧ Kept [k, l] bs w' lo b n c s d ep k l 0 (fun _ => none) 0 none 0 []) ∧ Below w.heap.size w w' := by
  have hmm := @run_makeMap Tryz.prog
  have hlo := h.lo
  obtain ⟨W, hW⟩ : ∃ W, W = (w.alloc MO).alloc (.cells #[ptr s, .map (some w.heap.size), .map none, .slice none 0 0] 129) := ⟨_, rfl⟩
  have bW : Below w.heap.size w W := by rw [hW]; exact ((Below.refl _ w).alloc (Nat.le_refl _) MO).alloc (by simp) _
  have zW : W.heap.size = w.heap.size + 2 := by rw [hW]; simp
  have hk : W.heap[w.heap.size + 1]? = some (.cells #[ptr s, .map (some w.heap.size), .map none, .slice none 0 0] 129) := by rw [hW]; exact alloc_at (by simp) _
  have hl : W.heap[w.heap.size]? = some MO := by rw [hW]; exact alloc_old (heap_alloc_new _ _)
  have hm : TextMap W w.heap.size w.heap.size 0 (fun _ => none) 0 := by
    have h0 := (TextMap.made w w.heap.size).below ((Below.refl _ _).alloc (Nat.le_refl _) (.cells #[ptr s, .map (some w.heap.size), .map none, .slice none 0 0] 129))
    rw [hW]; exact h0
  have HS1 := h.grow ((Below.refl w.heap.size w).alloc (Nat.le_refl _) MO) (Nat.le_refl _) (by simp)
  have HS2 : Store [w.heap.size + 1, w.heap.size] bs W lo b n c s d (fun _ => none) (fun _ => none) ep := HS1.grow (w' := W) (y := w.heap.size + 1) (by rw [hW]; exact (Below.refl _ _).alloc (Nat.le_refl _) _) (by simp) (by omega)
  have hp := HS2.pages
  rw [show there (fun _ => none) (fun _ => none) = [] by decide] at hp
  go_enter Tryz.func69, Tryz.ntmps69
  go_wp2_with fail
  rw [← hW]
  refine hp.mono ?_
  rintro e w1 ⟨⟨pa, pcap, rfl, hn⟩, b1⟩
  have hbd := hn.bound
  have hk1 := (b1.block (w.heap.size + 1) (by omega)).trans hk
  have hl1 := (b1.block w.heap.size (by omega)).trans hl
  have HS3 := hid (HS2.below b1)
  have HM := hid (hm.below b1)
  have HB1 := hid (bW.trans (b1.mono bW.size))
  have z1 := b1.size
  clear hp hn b1 HS1 HS2 h hm hl hk bW hW hmm
  have hz1 : w.heap.size + 1 < w1.heap.size := by omega
  clear zW z1 W
  go_wp2_with fail
  go_loopw [22] (fun i wr => i = .int .i64 0 ∧ wr = w1) (fun _ _ => 0)
  case atStart => exact ⟨rfl, rfl⟩
  case round =>
    obtain ⟨rfl, hwr⟩ := hrel
    rw [hwr]
    clear hwr
    have hkc : w1.cell? ⟨w.heap.size + 1, 1, none⟩ = some (.map (some w.heap.size)) := by simp [World.cell?, hk1]
    go_wp2_with fail
    refine (cloneTexts_w _ _ _ _ hl1).mono ?_
    rintro e w2 ⟨rfl, rfl⟩
    obtain ⟨X, hX⟩ : ∃ X, X = (w1.setCell ⟨w.heap.size + 1, 2, none⟩ (.map (some w1.heap.size))).alloc MO := ⟨_, rfl⟩
    have kf1 : w1.cell? ⟨w.heap.size + 1, 2, none⟩ = some (.map none) ∧ w1.frozen? ⟨w.heap.size + 1, 2, none⟩ = false := by simp [World.cell?, World.frozen?, hk1]
    obtain ⟨kf1, kf2⟩ := kf1
    have hT : Turn [w.heap.size + 1] w1 (w1.setCell ⟨w.heap.size + 1, 2, none⟩ (.map (some w1.heap.size))) := Turn.setCell w1 _ 2 _ (by simp)
    have bS : Below w.heap.size w (w1.setCell ⟨w.heap.size + 1, 2, none⟩ (.map (some w1.heap.size))) := HB1.out.setCell (by simp) _
    have bA := (Below.refl (w1.setCell ⟨w.heap.size + 1, 2, none⟩ (.map (some w1.heap.size))).heap.size (w1.setCell ⟨w.heap.size + 1, 2, none⟩ (.map (some w1.heap.size)))).alloc (Nat.le_refl _) MO
    have bB : Below w.heap.size w X := by rw [hX]; exact bS.trans (bA.mono bS.size)
    have hkS : (w1.setCell ⟨w.heap.size + 1, 2, none⟩ (.map (some w1.heap.size))).heap[w.heap.size + 1]? = some (.cells #[ptr s, .map (some w.heap.size), .map (some w1.heap.size), .slice none 0 0] 129) := by simp [World.setCell, Array.getElem?_modify, hk1]
    have hSt : Store [w.heap.size + 1, w.heap.size] bs X lo b n c s d (fun _ => none) (fun _ => none) ep := by
      rw [hX]
      exact (HS3.out.set (y := w.heap.size + 1) (by simp) hT (.inr ⟨ptr s, by simp [World.cell?, hk1], fun z e => by cases e⟩) (by omega)).below bA
    have hF : KAt X w.heap.size (w.heap.size + 1) w.heap.size 0 (fun _ => none) 0 := by
      rw [hX]
      refine KAt.below ⟨?_, Nat.le_refl _, HM.out.keep (heap_setCell_other _ ⟨w.heap.size + 1, 2, none⟩ _ _ (by simp)) ?_⟩ bA
      · simp [World.cell?, hkS]
      · intro g hg hc hz
        refine heap_setCell_other _ ⟨w.heap.size + 1, 2, none⟩ _ _ ?_
        rintro rfl
        obtain ⟨z, hz⟩ := hz
        simp [World.cell?, hk1] at hz
    have hKp : KpAt X lo s (w.heap.size + 1) w.heap.size 0 (fun _ => none) 0 none 0 [] := by
      refine ⟨⟨some w1.heap.size, ?_⟩, KAt.mono hF hlo, ⟨[], ⟨rfl, Nat.le_refl _, Nat.zero_le _, fun _ => rfl, fun j u h => by simp at h⟩, trivial⟩⟩
      rw [hX]
      exact (bA.block _ (by simp; omega)).trans hkS
    have hKt : Kept [w.heap.size + 1, w.heap.size] bs X lo b n c s d ep (w.heap.size + 1) w.heap.size 0 (fun _ => none) 0 none 0 [] := ⟨by rw [PgOf.nil]; exact hSt, hKp, ⟨by simp, by simp, fun b o e => by cases e⟩, by omega, fun x hx => by cases hx⟩
    have HKT := hid hKt
    have HBB := hid bB
    clear hKt hKp hF hSt bB bA bS hT hkS hl1 hk1
    go_wp2
    rw [← hX]
    exact bodyPost_ret (v := .tuple #[ptr (w.heap.size + 1), .nilIface]) (by simp [results, Tryz.results69, go_sem]) rfl ⟨⟨_, _, rfl, HKT.out⟩, HBB.out⟩
set_option maxHeartbeats 800000 in
theorem reopened0_w (bs : List Addr) (lo b n d : Nat) (w : World) (m : Mp) (k : At w lo d n m (Dv.new b)) (hB : Ev w lo bs seven) (h1 : 300 ≤ b) (h2 : b ≤ 6000) (hlo : lo ≤ w.heap.size) (hn : n ≤ 400) :
    Calls Tryz.prog 36 #[ptr d] w fun e w' => (∃ s q l, e = .returned (ptr q) ∧ Kept [q, l] bs w' lo b 400 0 s d 0 q l 0 (fun _ => none) 0 none 0 []) ∧ Below w.heap.size w w' := by
  have ho := open_none bs lo _ _ _ _ w k (hB.sub (by decide)) (by exact h1) (by exact h2) hlo rfl (Dv.Idle.new b).bytes (PgW.new_best b)
  have HX := hid hB
  clear k hB
  go_enter Tryz.func36, Tryz.ntmps36
  go_wp2_with fail
  refine ho.mono ?_
  rintro e w2 ⟨I, rfl, K, hd, hH, hz, hc, hown, _, b2⟩
  have hU : Store [] bs w2 lo b 400 0 I.s d Non Non 0 := ⟨_, _, I, St0, K.mono hn, Stand.fresh b I.H, rfl, hd, hH, rfl, h1, h2, rfl, by omega, HX.out.below b2, by have := b2.size; omega, rfl, rfl, fun y hy => (by cases hy)⟩
  have hk := kopen0_w bs lo b 400 0 I.s d 0 w2 hU
  have HB2 := hid b2
  clear ho K hd hH hz hc hown b2 hU
  go_wp2_with fail
  refine hk.mono ?_
  rintro e w3 ⟨⟨q, l, rfl, hK⟩, b3⟩
  have HK := hid hK
  have HB3 := hid (HB2.out.trans (b3.mono HB2.out.size))
  clear hk hK b3
  go_wp2_with fail
  go_ret
  exact ⟨⟨_, _, _, rfl, HK.out⟩, HB3.out⟩
set_option maxHeartbeats 800000 in
theorem opened8_w (bs : List Addr) (lo b : Nat) (w : World) (hB : Ev w lo bs seven) (hlo : lo ≤ w.heap.size) (h1 : 300 ≤ b) (h2 : b ≤ 6000) :
    Calls Tryz.prog 33 #[.int .i64 b] w fun e w' => (∃ q d s l, e = .returned (.tuple #[ptr q, ptr d]) ∧ Kept [q, l] bs w' lo b 400 0 s d 0 q l 0 (fun _ => none) 0 none 0 []) ∧ Below w.heap.size w w' := by
  go_enter Tryz.func33, Tryz.ntmps33
  go_wp2_with fail
  refine (new_w b _ (by omega) (by omega)).mono ?_
  rintro e w1 ⟨rfl, k1, b1, z1⟩
  have ho := reopened0_w bs lo b _ _ w1 _ (k1.mono (Nat.le_refl _) hlo) (hB.below b1) h1 h2 (by omega) (by omega)
  have HX := hid b1
  clear k1 hB b1
  go_wp2_with fail
  refine ho.mono ?_
  rintro e w2 ⟨⟨s, q, l, rfl, hK⟩, b2⟩
  have HK := hid hK
  have HB2 := hid (HX.out.trans (b2.mono HX.out.size))
  clear ho hK b2
  go_wp2_with fail
  exact bodyPost_ret (v := .tuple #[ptr q, ptr (w.heap.size + 5)]) (by simp [results, Tryz.results33, go_sem]) rfl ⟨⟨_, _, _, _, rfl, HK.out⟩, HB2.out⟩
/-- a store that has committed all, over its device as one of which copies may be wrong -/
theorem store_limM {Y : List Nat} {bs : List Addr} {w : World} {lo b n c s d : Nat} {V : Int → Option (List Nat)} {ep : Nat} (h : Store Y bs w lo b n c s d V (fun _ => none) ep) : ∃ C m D I S, LimM Y bs w lo b n c s d V C ep 7 m D I S := by
  obtain ⟨m, D, I, S, h⟩ := h
  obtain ⟨C, hl, hs⟩ := h.st.limp
  have hS : ({ S with now := fun _ => none } : St) = S := by
    have h1 := h.now
    obtain ⟨ep, rs, tabs, at_, now⟩ := S
    simp only at h1
    subst h1
    rfl
  rw [hS] at hl
  have hcl := h.cl
  have hnp := h.st.idle.np
  exact ⟨C, m, D, I, S, ⟨h.at_, hl, h.hs, h.hd, h.hH, h.bl, h.b1, h.b2, by omega, by omega, h.ic, h.ev, h.los, h.ep, h.out⟩⟩
set_option maxHeartbeats 800000 in
theorem reopened8_w (Y : List Nat) (bs : List Addr) (lo b n c s d ep : Nat) (gs : List (List Kv)) (w : World) (h : Store Y bs w lo b n c s d (PgOf (gs.map encG)) (fun _ => none) ep)
    (hg : ∀ g ∈ gs, (∀ p ∈ g, Kok p) ∧ (encG g).length ≤ 1000 ∧ g.length ≤ 1000 ∧ g ≠ []) (hd : (gs.flatten.map Prod.fst).Nodup) (hq : gs.length ≤ 250) (hf : gs.flatten.length ≤ 1000) (hn : n < 590000) (hc : c < 600000) (hep : ep < 1000000) :
    Calls Tryz.prog 36 #[ptr d] w fun e w' => (∃ B k l nk, e = .returned (ptr k) ∧ KAt w' B k l nk (Fof gs.flatten) gs.flatten.length) ∧ Below lo w w' := by
  have ho := h.open_ (by omega) (by omega) hep
  have hlo := h.lo
  have HG := hid hg
  have HD := hid hd
  clear h hg hd
  go_enter Tryz.func36, Tryz.ntmps36
  go_wp2_with fail
  refine ho.mono ?_
  rintro e w1 ⟨⟨s', rfl, h1⟩, b1, _⟩
  have hl1 := h1.lo
  obtain ⟨C, m, D, I, S, hL⟩ := store_limM h1
  have hX : ∀ x ∈ I.p :: own I.d m, lo ≤ x := fun x hx => by
    rcases List.mem_cons.1 hx with rfl | hx
    · exact hL.at_.pr.lop
    · exact hL.at_.pr.dev.own_lo x hx
  have hk := kopen_w Y bs lo b _ c s' d ep 7 C m D I S gs w1 hL HG.out HD.out hq hf (by omega) hc (by omega)
  have HB1 := hid b1
  have HX := hid hX
  clear ho h1 hL b1 hX
  go_wp2_with fail
  refine hk.mono ?_
  rintro e w2 ⟨k, l, nk, rfl, hK, ht⟩
  have HK := hid hK
  have HB2 := hid (HB1.out.trans (ht.below hl1 HX.out))
  clear hk hK ht
  go_wp2_with fail
  go_ret
  exact ⟨⟨_, _, _, _, rfl, HK.out⟩, HB2.out⟩
end Go.Proofs.YtbjfgdahfpfgdaaGreatDoor.KeepW

namespace Go.Proofs.YtbjfgdahfpfgdaaGreatDoor.NumW
open Go Go.RowKit Go.Proofs.YtbjfgdahfpfgdaaGreatDoor.Mem
set_option linter.unusedVariables false
set_option maxRecDepth 100000

theorem tmod_pos {n b : Int} (hb : 0 < b) (h : ¬ n.tmod b < 0) : n.tmod b = n % b := by
  have h2 := Int.tmod_lt_of_pos n hb
  have h3 : n.tmod b % b = n % b := Int.emod_eq_emod_iff_emod_sub_eq_zero.2 (by
    have := Int.mul_tdiv_add_tmod n b
    have e : n.tmod b - n = b * (- n.tdiv b) := by rw [Int.mul_neg]; omega
    rw [e]; exact Int.mul_emod_right _ _)
  rw [← h3, Int.emod_eq_of_lt (by omega) h2]
theorem tmod_neg {n b : Int} (hb : 0 < b) (h : n.tmod b < 0) : n.tmod b + b = n % b := by
  have h1 : -b < n.tmod b := by
    have := Int.lt_tmod_of_pos n hb
    omega
  have h3 : (n.tmod b + b) % b = n % b := Int.emod_eq_emod_iff_emod_sub_eq_zero.2 (by
    have := Int.mul_tdiv_add_tmod n b
    have e : n.tmod b + b - n = b * (1 - n.tdiv b) := by rw [Int.mul_sub]; omega
    rw [e]; exact Int.mul_emod_right _ _)
  rw [← h3, Int.emod_eq_of_lt (by omega) (by omega)]

theorem number_w (n b : Int) (w : World) (hb : 0 < b) (hb2 : b ≤ 9223372036854775807) (h1 : -9223372036854775808 ≤ n) (h2 : n ≤ 9223372036854775807) :
    Calls Tryz.prog 12 #[.int .i64 n, .int .i64 b] w fun e w' => e = .returned (.int .i64 (n % b)) ∧ w = w' := by
  have q1 := Int.tmod_lt_of_pos n hb
  have q2 := Int.lt_tmod_of_pos n hb
  by_cases h : n.tmod b < 0
  · have HE := hid (tmod_neg hb h)
    go_enter Tryz.func12, Tryz.ntmps12
    go_wp2
    go_ret
    exact ⟨ret_int HE.out, rfl⟩
  · have HE := hid (tmod_pos hb h)
    go_enter Tryz.func12, Tryz.ntmps12
    go_wp2
    go_ret
    exact ⟨ret_int HE.out, rfl⟩
end Go.Proofs.YtbjfgdahfpfgdaaGreatDoor.NumW

namespace Go.Proofs.YtbjfgdahfpfgdaaGreatDoor.KeepW
open Go Go.RowKit Go.Maps Go.Proofs.YtbjfgdahfpfgdaaGreatDoor.Mem Go.Proofs.YtbjfgdahfpfgdaaGreatDoor.MapsW Go.Proofs.YtbjfgdahfpfgdaaGreatDoor.DevG Go.Proofs.YtbjfgdahfpfgdaaGreatDoor.Text Go.Proofs.YtbjfgdahfpfgdaaGreatDoor.KeepP Go.Proofs.YtbjfgdahfpfgdaaGreatDoor.SeeW Go.Proofs.YtbjfgdahfpfgdaaGreatDoor.PgP Go.Proofs.YtbjfgdahfpfgdaaGreatDoor.PgW
set_option linter.unusedVariables false
set_option maxRecDepth 100000

/-- the i-th key -/
def key3 (i : Nat) : List UInt8 := [UInt8.ofNat (i * 7), UInt8.ofNat i, UInt8.ofNat (i / 256)]
def z57 : List Nat := List.replicate 57 0
theorem key3_inj {i j : Nat} (hi : i < 300) (hj : j < 300) (h : key3 i = key3 j) : i = j := by
  unfold key3 at h
  simp only [List.cons.injEq, and_true] at h
  have h1 := congrArg UInt8.toNat h.2.1
  have h2 := congrArg UInt8.toNat h.2.2
  simp at h1 h2
  omega
theorem z57_bytes : Crc.Bytes z57 := by
  intro x hx
  have := List.eq_of_mem_replicate hx
  omega
/-- what was put -/
structure RInv (F : List UInt8 → Option (List Nat)) (j : Nat) : Prop where
  mem : ∀ s x, F s = some x → x = z57 ∧ ∃ i, i < j ∧ s = key3 i
theorem RInv.none : RInv (fun _ => Option.none) 0 := ⟨fun s x h => by cases h⟩
theorem RInv.fresh {F : List UInt8 → Option (List Nat)} {j : Nat} (h : RInv F j) (hj : j < 300) : F (key3 j) = Option.none := by
  cases hF : F (key3 j) with
  | none => rfl
  | some x =>
    obtain ⟨_, i, hi, e⟩ := h.mem _ _ hF
    have := key3_inj hj (by omega) e
    omega
theorem RInv.put {F : List UInt8 → Option (List Nat)} {j : Nat} (h : RInv F j) : RInv (updS F (key3 j) (some z57)) (j + 1) := by
  refine ⟨fun s x hx => ?_⟩
  by_cases hs : s = key3 j
  · subst hs
    rw [updS_same] at hx
    cases hx
    exact ⟨rfl, j, by omega, rfl⟩
  · rw [updS_other _ _ hs] at hx
    obtain ⟨h1, i, hi, e⟩ := h.mem s x hx
    exact ⟨h1, i, by omega, e⟩
theorem RInv.ok {F : List UInt8 → Option (List Nat)} {j : Nat} (h : RInv F j) (s : List UInt8) (x : List Nat) (hF : F s = some x) : Kok (s, x) := by
  obtain ⟨rfl, i, _, rfl⟩ := h.mem s x hF
  exact ⟨by simp [key3], by simp [key3], by simp [z57], by simp [z57], z57_bytes⟩
theorem kvs_ok {F : List UInt8 → Option (List Nat)} (h : ∀ s x, F s = some x → Kok (s, x)) {ks : List (List UInt8)} (hS : SKeys F ks) : ∀ p ∈ kvs F ks, Kok p := by
  intro p hp
  obtain ⟨K, hK, rfl⟩ := List.mem_map.1 hp
  obtain ⟨x, hx⟩ := Option.isSome_iff_exists.1 ((hS.mem K).1 hK)
  rw [hx]
  exact h K x hx
theorem kvs_length (F : List UInt8 → Option (List Nat)) (ks : List (List UInt8)) : (kvs F ks).length = ks.length := List.length_map _
theorem kvs_fst (F : List UInt8 → Option (List Nat)) (ks : List (List UInt8)) : (kvs F ks).map Prod.fst = ks := by unfold kvs; rw [List.map_map]; exact List.map_id' _
theorem RInv.enc {F : List UInt8 → Option (List Nat)} {j : Nat} (h : RInv F j) {ks : List (List UInt8)} (hS : SKeys F ks) : ∀ p ∈ kvs F ks, (encK p).length = 62 := by
  intro p hp
  obtain ⟨K, hK, rfl⟩ := List.mem_map.1 hp
  obtain ⟨x, hx⟩ := Option.isSome_iff_exists.1 ((hS.mem K).1 hK)
  obtain ⟨rfl, i, _, rfl⟩ := h.mem _ _ hx
  rw [encK_length, hx]
  rfl
theorem pagesOf_length (ps : List Kv) : (pagesOf ps).length = (groups ps).length := List.length_map _
theorem RInv.pages {F : List UInt8 → Option (List Nat)} {j : Nat} (h : RInv F j) {ks : List (List UInt8)} (hS : SKeys F ks) (hl : ks.length = j) : (pagesOf (kvs F ks)).length ≤ (j + 3) / 4 := by
  obtain ⟨g1, g2⟩ := groups_count (z := 62) (c := 4) (by decide) (fun k => by omega) (h.enc hS)
  rw [kvs_length, hl] at g1 g2
  rw [pagesOf_length]
  rcases Nat.eq_zero_or_pos j with h0 | h0
  · omega
  · have := g2 h0
    omega
theorem mem_flat_le {α : Type} : ∀ {gs : List (List α)} {g : List α}, g ∈ gs → g.length ≤ gs.flatten.length
  | a :: gs, g, h => by
    rw [List.flatten_cons, List.length_append]
    rcases List.mem_cons.1 h with rfl | h
    · omega
    · have := mem_flat_le h; omega
/-- what is to be known of pages that are read -/
theorem read_ok {F : List UInt8 → Option (List Nat)} (h : ∀ s x, F s = some x → Kok (s, x)) {ks : List (List UInt8)} (hS : SKeys F ks) (hn : ks.length ≤ 1000) :
    (∀ g ∈ groups (kvs F ks), (∀ p ∈ g, Kok p) ∧ (encG g).length ≤ 1000 ∧ g.length ≤ 1000 ∧ g ≠ []) ∧ ((groups (kvs F ks)).flatten.map Prod.fst).Nodup ∧ (groups (kvs F ks)).flatten.length = ks.length ∧ Fof (groups (kvs F ks)).flatten = F := by
  have hok := kvs_ok h hS
  obtain ⟨h1, h2⟩ := groups_ok hok
  have hk : (kvs F ks).map Prod.fst = ks := kvs_fst F ks
  have hnd : ks.Nodup := hS.rise.imp fun h e => by
    rw [e] at h
    exact List.lt_irrefl _ h
  refine ⟨fun g hg => ?_, by rw [h1, hk]; exact hnd, by rw [h1, kvs_length], by rw [h1]; exact Fof.kvs hS⟩
  obtain ⟨h3, h4⟩ := h2 g hg
  refine ⟨fun p hp => hok p ?_, by omega, ?_, h3⟩
  · rw [← h1]
    exact List.mem_flatten.2 ⟨g, hg, hp⟩
  · have := mem_flat_le hg
    rw [h1, kvs_length] at this
    omega
/-- a keep in the law's loop: j pairs were put -/
def KS (bs : List Addr) (lo B s d q l j : Nat) (w : World) : Prop :=
  ∃ F Y nn c ep pa pc ps, RInv F j ∧ nn ≤ 400 + 1600 * j ∧ c ≤ 200 * j ∧ ep ≤ j ∧ ps.length ≤ (j + 3) / 4 ∧ Kept Y bs w lo B nn c s d ep q l j F j pa pc ps
theorem KS.below {bs : List Addr} {lo B s d q l j : Nat} {w w' : World} (h : KS bs lo B s d q l j w) (hb : Below w.heap.size w w') : KS bs lo B s d q l j w' := by
  obtain ⟨F, Y, nn, c, ep, pa, pc, ps, h1, h2, h3, h4, h5, h6⟩ := h
  exact ⟨F, Y, nn, c, ep, pa, pc, ps, h1, h2, h3, h4, h5, h6.below hb⟩
/-- .. the j-th was put, not committed yet -/
def KS1 (bs : List Addr) (lo B s d q l j : Nat) (w : World) : Prop :=
  ∃ F Y nn c ep pa pc ps, RInv F (j + 1) ∧ nn ≤ 400 + 1600 * j ∧ c ≤ 200 * j ∧ ep ≤ j ∧ ps.length ≤ (j + 3) / 4 ∧ Kept Y bs w lo B nn c s d ep q l (j + 1) F (j + 1) pa pc ps
theorem KS1.skip {bs : List Addr} {lo B s d q l j : Nat} {w : World} (h : KS1 bs lo B s d q l j w) : KS bs lo B s d q l (j + 1) w := by
  obtain ⟨F, Y, nn, c, ep, pa, pc, ps, h1, h2, h3, h4, h5, h6⟩ := h
  exact ⟨F, Y, nn, c, ep, pa, pc, ps, h1, by omega, by omega, by omega, by omega, h6⟩
theorem KS.put {bs : List Addr} {lo B s d q l j : Nat} {w : World} (h : KS bs lo B s d q l j w) (hj : j < 300) {kg kc : Nat} (hk : Nums .u8 w (some ⟨kg, 0, none⟩) 3 kc (KeepP.nat (key3 j))) {va : Option Addr} {vc : Nat} (hv : Nums .u8 w va 57 vc z57) :
    Calls Tryz.prog 34 #[ptr q, .slice (some ⟨kg, 0, none⟩) 3 kc, .slice va 57 vc] w fun e w' => e = .returned .nilIface ∧ KS1 bs lo B s d q l j w' ∧ Below lo w w' := by
  obtain ⟨F, Y, nn, c, ep, pa, pc, ps, h1, h2, h3, h4, h5, h6⟩ := h
  refine (put_w lo q l j F j kg kc (key3 j) va vc z57 w h6.kp.at_ hk (by simp [key3]) (by simp [key3]) hv (by simp [z57]) (by simp [z57]) (by omega)).mono ?_
  rintro e w' ⟨rfl, hK, ht⟩
  rw [h1.fresh hj] at hK
  refine ⟨rfl, ⟨_, Y, nn, c, ep, pa, pc, ps, h1.put, h2, h3, h4, h5, h6.put hK ht⟩, ht.below h6.st.lo fun x hx => by rw [List.mem_singleton.1 hx]; exact h6.kp.at_.bl⟩
/-- a commit -/
theorem KS1.commit {bs : List Addr} {lo B s d q l j : Nat} {w : World} (h : KS1 bs lo B s d q l j w) (hj : j < 300) (hB : j + 1 + 40 ≤ GeoW.half B) :
    Calls Tryz.prog 35 #[ptr q] w fun e w' => e = .returned .nilIface ∧ KS bs lo B s d q l (j + 1) w' ∧ Below lo w w' := by
  obtain ⟨F, Y, nn, c, ep, pa, pc, ps, h1, h2, h3, h4, h5, h6⟩ := h
  refine (kcommit_w Y bs lo B nn c s d ep q l (j + 1) (j + 1) ((j + 4) / 4) F pa pc ps w h6 h1.ok (by omega) (fun ks hS hl => h1.pages hS hl) (by omega) (by omega) (by omega) (by omega) (by omega) (by omega)).mono ?_
  rintro e w' ⟨rfl, ⟨Y', n', c', ep', la, lc, ks, e1, e2, e3, hS, hl, hK⟩, hb⟩
  exact ⟨rfl, ⟨F, Y', n', c', ep', la, lc, _, h1, by omega, by omega, by omega, h1.pages hS hl, hK⟩, hb⟩
/-- the last commit, opened again -/
theorem KS.last {bs : List Addr} {lo B s d q l j : Nat} {w : World} (h : KS bs lo B s d q l j w) (hj : j < 300) (hB : j + 40 ≤ GeoW.half B) :
    Calls Tryz.prog 35 #[ptr q] w fun e w' => e = .returned .nilIface ∧ (Calls Tryz.prog 36 #[ptr d] w' fun e w'' => (∃ B k l nk F, e = .returned (ptr k) ∧ KAt w'' B k l nk F j) ∧ Below lo w' w'') ∧ Below lo w w' := by
  obtain ⟨F, Y, nn, c, ep, pa, pc, ps, h1, h2, h3, h4, h5, h6⟩ := h
  refine (kcommit_w Y bs lo B nn c s d ep q l j j ((j + 3) / 4) F pa pc ps w h6 h1.ok (by omega) (fun ks hS hl => h1.pages hS hl) (by omega) (by omega) (by omega) (by omega) (by omega) (by omega)).mono ?_
  rintro e w' ⟨rfl, ⟨Y', n', c', ep', la, lc, ks, e1, e2, e3, hS, hl, hK⟩, hb⟩
  obtain ⟨r1, r2, r3, r4⟩ := read_ok h1.ok hS (by omega)
  have hp := h1.pages hS hl
  rw [pagesOf_length] at hp
  refine ⟨rfl, (reopened8_w Y' bs lo B n' c' s d ep' (groups (kvs F ks)) w' hK.st r1 r2 (by omega) (by omega) (by omega) (by omega) (by omega)).mono ?_, hb⟩
  rintro e w'' ⟨⟨B, k, l, nk, rfl, hA⟩, hb⟩
  rw [r3, hl] at hA
  exact ⟨⟨B, k, l, nk, _, rfl, hA⟩, hb⟩
/-- the errors that the row lists -/
theorem ev7_of {w : World} (h : Err.All w [1, 0, 6, 2, 5, 4, 3]) : ∃ bs, Ev w w.heap.size bs seven := by
  obtain ⟨bs, h1, h2, h3⟩ := h
  match bs, h1 with
  | [b0, b1, b2, b3, b4, b5, b6], _ =>
    have hk : ∀ i ∈ seven, ∃ k : Nat, k < 7 ∧ i = (if k = 6 then 8 else k + 1) ∧ ([⟨0, 0, none⟩, b0, b1, b2, b3, b4, b5, ⟨0, 0, none⟩, b6] : List Addr)[i]? = [b0, b1, b2, b3, b4, b5, b6][k]? ∧ SeeW.gl[i]? = [1, 0, 6, 2, 5, 4, 3][k]? := by
      intro i hi
      simp only [seven, List.mem_cons, List.not_mem_nil, or_false] at hi
      rcases hi with rfl | rfl | rfl | rfl | rfl | rfl | rfl
      · exact ⟨0, by decide, rfl, rfl, rfl⟩
      · exact ⟨1, by decide, rfl, rfl, rfl⟩
      · exact ⟨2, by decide, rfl, rfl, rfl⟩
      · exact ⟨3, by decide, rfl, rfl, rfl⟩
      · exact ⟨4, by decide, rfl, rfl, rfl⟩
      · exact ⟨5, by decide, rfl, rfl, rfl⟩
      · exact ⟨6, by decide, rfl, rfl, rfl⟩
    refine ⟨[⟨0, 0, none⟩, b0, b1, b2, b3, b4, b5, ⟨0, 0, none⟩, b6], fun i hi g hg => ?_, fun i hi j hj e => ?_⟩
    · obtain ⟨k, _, _, e1, e2⟩ := hk i hi
      rw [e2] at hg
      obtain ⟨a, ha, hA⟩ := h3 k g hg
      exact ⟨a, by rw [e1]; exact ha, hA, World.block_lt_of_cell? w ⟨g, 0, none⟩ hA.1, hA.lt⟩
    · obtain ⟨k, k7, e1, e2, _⟩ := hk i hi
      obtain ⟨k', k7', e1', e2', _⟩ := hk j hj
      rw [e2, e2'] at e
      have := (List.getElem?_inj (by exact k7) h2).1 e
      rw [e1, e1', this]
end Go.Proofs.YtbjfgdahfpfgdaaGreatDoor.KeepW

namespace Go.Proofs.YtbjfgdahfpfgdaaGreatDoor.BlobW
open Go Go.RowKit Go.Proofs.YtbjfgdahfpfgdaaGreatDoor.Mem Go.Proofs.YtbjfgdahfpfgdaaGreatDoor.DevG
set_option linter.unusedVariables false
set_option maxRecDepth 100000

/-- block b: the bools F -/
structure InC (w : World) (b : Nat) (F : Nat → Bool) : Prop where
  blk : ∃ cs : Array Value, w.heap[b]? = some (.cells cs 73) ∧ cs.size = 100
  at_ : ∀ q, q < 100 → w.cell? ⟨b, q, none⟩ = some (.bool (F q))
theorem zbool100 : Tryz.zeroCells73 = Array.replicate 100 (.bool false) := by kernel_rfl
theorem InC.made (w : World) : InC (w.alloc (.cells Tryz.zeroCells73 73)) w.heap.size (fun _ => false) := by
  refine ⟨⟨_, alloc_at rfl _, by rw [zbool100]; simp⟩, fun q hq => ?_⟩
  rw [World.cell?_alloc_mark, zbool100, Array.getElem?_replicate, if_pos hq]
theorem InC.lt {w : World} {b : Nat} {F : Nat → Bool} (h : InC w b F) : b < w.heap.size := let ⟨_, e, _⟩ := h.blk; (Array.getElem?_eq_some_iff.1 e).1
theorem InC.frozen {w : World} {b : Nat} {F : Nat → Bool} (h : InC w b F) (q : Nat) : w.frozen? ⟨b, q, none⟩ = false := by
  obtain ⟨cs, h1, _⟩ := h.blk
  simp [World.frozen?, h1]
theorem InC.keep {w w' : World} {b : Nat} {F : Nat → Bool} (h : InC w b F) (e : w'.heap[b]? = w.heap[b]?) : InC w' b F :=
  ⟨by rw [e]; exact h.blk, fun q hq => by rw [World.cell?_of_block (w := w) e]; exact h.at_ q hq⟩
theorem InC.below {w w' : World} {b : Nat} {F : Nat → Bool} (h : InC w b F) (hb : Below w.heap.size w w') : InC w' b F := h.keep (hb.block b h.lt)
theorem InC.turn {S : List Nat} {w w' : World} {b : Nat} {F : Nat → Bool} (h : InC w b F) (t : Turn S w w') (hb : b ∉ S) : InC w' b F := h.keep (t.block b h.lt hb)
theorem InC.set {w : World} {b : Nat} {F : Nat → Bool} (h : InC w b F) (p : Nat) (hp : p < 100) (v : Bool) : InC (w.setCell ⟨b, p, none⟩ (.bool v)) b (fun q => if q = p then v else F q) := by
  obtain ⟨cs, h1, hs⟩ := h.blk
  refine ⟨⟨_, heap_setCell_same w b p cs _ _ h1, by simp [hs]⟩, fun q hq => ?_⟩
  by_cases e : q = p
  · subst e
    rw [if_pos rfl]
    exact World.cell?_setCell_same w _ _ (h.at_ q hq)
  · rw [if_neg e, World.cell?_setCell_other w (a := ⟨b, p, none⟩) (b := ⟨b, q, none⟩) (v := _) (fun h => e (congrArg Addr.off h).symm)]
    exact h.at_ q hq
end Go.Proofs.YtbjfgdahfpfgdaaGreatDoor.BlobW
namespace Go.Proofs.YtbjfgdahfpfgdaaGreatDoor.PgW
open Go Go.RowKit Go.Maps Go.Proofs.YtbjfgdahfpfgdaaGreatDoor.Mem Go.Proofs.YtbjfgdahfpfgdaaGreatDoor.MapsW Go.Proofs.YtbjfgdahfpfgdaaGreatDoor.SeeW Go.Proofs.YtbjfgdahfpfgdaaGreatDoor.DevG Go.Proofs.YtbjfgdahfpfgdaaGreatDoor.PairG Go.Proofs.YtbjfgdahfpfgdaaGreatDoor.RefsW Go.Proofs.YtbjfgdahfpfgdaaGreatDoor.PgP Go.Proofs.YtbjfgdahfpfgdaaGreatDoor.RootP Go.Proofs.YtbjfgdahfpfgdaaGreatDoor.RootW Go.Proofs.YtbjfgdahfpfgdaaGreatDoor.BlobW
set_option linter.unusedVariables false
theorem and1 (A : Int) : ∃ r : Nat, r ≤ 1 ∧ bits .and .i64 A 1 = (r : Int) := by
  have e : (BitVec.ofInt 64 (1 : Int)).toNat = 1 := by rw [BitVec.toNat_ofInt]; rfl
  refine ⟨(BitVec.ofInt 64 A &&& BitVec.ofInt 64 (1 : Int)).toNat, ?_, ?_⟩
  · rw [BitVec.toNat_and, e, Nat.and_one_is_mod]; omega
  · show IntKind.i64.wrap ((BitVec.ofInt 64 A &&& BitVec.ofInt 64 (1 : Int)).toNat : Int) = _
    have : (BitVec.ofInt 64 A &&& BitVec.ofInt 64 (1 : Int)).toNat ≤ 1 := by rw [BitVec.toNat_and, e, Nat.and_one_is_mod]; omega
    generalize (BitVec.ofInt 64 A &&& BitVec.ofInt 64 (1 : Int)).toNat = x at this ⊢
    rw [IntKind.wrap_i64]
    omega
theorem own_lt {w : World} {base : Nat} {e : TypeId} {g o n c m : Nat} {xs : List Value} (h : w.ownsRow base e 1 (.slice (some ⟨g, o, none⟩) n c) m xs) : g < w.heap.size := by
  rcases h.2 with ⟨e, _⟩ | ⟨g', c', cur, e, hb, hc, _⟩
  · cases e
  · cases e; exact (Array.getElem?_eq_some_iff.1 hc).1
theorem tdiv_7 {z : Int} (h : -9223372036854775808 ≤ z ∧ z ≤ 9223372036854775807) : -9223372036854775808 ≤ z.tdiv 7 ∧ z.tdiv 7 ≤ 9223372036854775807 := by
  have h1 := Int.mul_tdiv_add_tmod z 7
  have h2 := Int.tmod_lt_of_pos z (show (0 : Int) < 7 by decide)
  have h3 := Int.lt_tmod_of_pos z (show (0 : Int) < 7 by decide)
  omega
theorem LameAt.alloc {Y : List Nat} {bs : List Addr} {w : World} {lo b n c d : Nat} {V : Int → Option (List Nat)} {C : Nat → List Nat} {ep np : Nat} {m : Mp} {D : Dv} {S : St} (h : LameAt Y bs w lo b n c d V C ep np m D S) (o : Obj) : LameAt (w.heap.size :: Y) bs (w.alloc o) lo b n c d V C ep np m D S := by
  have hb := (Below.refl w.heap.size w).alloc (Nat.le_refl _) o
  refine ⟨h.at_.below hb, h.li, h.bl, h.b1, h.b2, h.cl, h.np, h.ev.below hb, Nat.le_trans h.los hb.size, h.ep, fun y hy => ?_⟩
  rcases List.mem_cons.1 hy with rfl | hy
  · refine ⟨by simp, fun hm => ?_⟩
    rcases List.mem_cons.1 hm with e | hm
    · have := h.at_.dlt; omega
    · obtain ⟨es, ck, hk⟩ := h.at_.maps _ hm
      have := (Array.getElem?_eq_some_iff.1 hk).1
      omega
  · exact ⟨Nat.lt_of_lt_of_le (h.out y hy).1 hb.size, (h.out y hy).2⟩
theorem LameAt.on {Y : List Nat} {bs : List Addr} {w w' : World} {lo b n c d : Nat} {V : Int → Option (List Nat)} {C : Nat → List Nat} {ep np : Nat} {m : Mp} {D : Dv} {S : St} (h : LameAt Y bs w lo b n c d V C ep np m D S) (hb : Below w.heap.size w w') : LameAt Y bs w' lo b n c d V C ep np m D S :=
  ⟨h.at_.below hb, h.li, h.bl, h.b1, h.b2, h.cl, h.np, h.ev.below hb, Nat.le_trans h.los hb.size, h.ep, fun y hy => ⟨Nat.lt_of_lt_of_le (h.out y hy).1 hb.size, (h.out y hy).2⟩⟩
theorem LameAt.mono {Y : List Nat} {bs : List Addr} {w : World} {lo b n n' c c' d : Nat} {V : Int → Option (List Nat)} {C : Nat → List Nat} {ep np np' : Nat} {m : Mp} {D : Dv} {S : St} (h : LameAt Y bs w lo b n c d V C ep np m D S) (hn : n ≤ n') (hc : c ≤ c') (hp : np ≤ np') : LameAt Y bs w lo b n' c' d V C ep np' m D S :=
  ⟨h.at_.mono hn (Nat.le_refl _), h.li, h.bl, h.b1, h.b2, Nat.le_trans h.cl hc, Nat.le_trans h.np hp, h.ev, h.los, h.ep, h.out⟩
theorem LameAt.set {Y : List Nat} {bs : List Addr} {w w' : World} {lo b n c d : Nat} {V : Int → Option (List Nat)} {C : Nat → List Nat} {ep np : Nat} {m : Mp} {D : Dv} {S : St} (h : LameAt Y bs w lo b n c d V C ep np m D S) {y : Nat} (hy : y ∈ Y) (ht : Turn [y] w w') (hb : ∃ v, w.cell? ⟨y, 0, none⟩ = some v ∧ ∀ z, v ≠ .int .u8 z) (hl : lo ≤ y) : LameAt Y bs w' lo b n c d V C ep np m D S := by
  obtain ⟨o1, o2⟩ := h.out y hy
  refine ⟨h.at_.turn ht (fun hm => o2 (by rw [List.mem_singleton.1 hm]; exact List.mem_cons_self)) (fun x hx hm => o2 (by rw [← List.mem_singleton.1 hm]; exact List.mem_cons_of_mem _ hx)) (fun x hx => by rw [List.mem_singleton.1 hx]; exact .inr hb), h.li, h.bl, h.b1, h.b2, h.cl, h.np, h.ev.turn ht (fun x hx => by rw [List.mem_singleton.1 hx]; exact hl), Nat.le_trans h.los ht.size, h.ep, fun y hy => ⟨Nat.lt_of_lt_of_le (h.out y hy).1 ht.size, (h.out y hy).2⟩⟩
theorem _root_.Go.Proofs.YtbjfgdahfpfgdaaGreatDoor.BlobW.InC.c0 {w : World} {b : Nat} {F : Nat → Bool} (h : InC w b F) : ∃ v, w.cell? ⟨b, 0, none⟩ = some v ∧ ∀ z, v ≠ .int .u8 z := ⟨_, h.at_ 0 (by decide), fun z e => by cases e⟩
theorem _root_.Go.Proofs.YtbjfgdahfpfgdaaGreatDoor.BlobW.InC.u8 {w : World} {b : Nat} {F : Nat → Bool} (h : InC w b F) (off : Nat) (z : Int) : w.cell? ⟨b, off, none⟩ ≠ some (.int .u8 z) := by
  intro e
  obtain ⟨cs, h1, hs⟩ := h.blk
  by_cases ho : off < 100
  · rw [h.at_ off ho] at e; cases e
  · have : cs[off]? = none := by rw [Array.getElem?_eq_none_iff]; omega
    simp [World.cell?, h1, this] at e
end Go.Proofs.YtbjfgdahfpfgdaaGreatDoor.PgW

namespace Go.Proofs.YtbjfgdahfpfgdaaGreatDoor.KeepW
open Go Go.RowKit Go.Maps Go.Proofs.YtbjfgdahfpfgdaaGreatDoor.Mem Go.Proofs.YtbjfgdahfpfgdaaGreatDoor.MapsW Go.Proofs.YtbjfgdahfpfgdaaGreatDoor.DevG Go.Proofs.YtbjfgdahfpfgdaaGreatDoor.Text Go.Proofs.YtbjfgdahfpfgdaaGreatDoor.KeepP Go.Proofs.YtbjfgdahfpfgdaaGreatDoor.SeeW Go.Proofs.YtbjfgdahfpfgdaaGreatDoor.PgP Go.Proofs.YtbjfgdahfpfgdaaGreatDoor.RootP Go.Proofs.YtbjfgdahfpfgdaaGreatDoor.RootW Go.Proofs.YtbjfgdahfpfgdaaGreatDoor.PgW
set_option linter.unusedVariables false
set_option maxRecDepth 100000

/-- a pair is faulted -/
def fap (D : Dv) (k : Nat) : Bool := D.fa (k : Int) || D.fa ((k + 100 : Nat) : Int)
theorem left_imp {H : Nat} {S : St} {C : Nat → List Nat} {D : Dv} {dn dn' : Nat → Bool} (h : PgW.Left H S C D dn) (hd : ∀ k, k < H → dn' k = false → dn k = false) (h2 : 2 ≤ H) : PgW.Left H S C D dn' :=
  ⟨fun k hk hf => h.w k hk (hd k hk hf), fun k hk hf => h.sp k hk (hd k (by omega) hf), h.kb⟩
theorem fault_i {k r i : Nat} (hi : i = k + 100 * r) (hr : r ≤ 1) : (i : Int) = (k : Int) ∨ (i : Int) = ((k + 100 : Nat) : Int) := by omega
theorem fap_but {D E : Dv} {i : Int} (hb : But D E i) {k a : Nat} (hk : k < 100) (ha : a < 100) (hi : i = (k : Int) ∨ i = ((k + 100 : Nat) : Int)) (hne : a ≠ k) : fap E a = fap D a := by
  unfold fap
  rw [hb.fa _ (by omega), hb.fa _ (by omega)]
theorem left_fail {S : St} {C : Nat → List Nat} {D : Dv} (h : PgW.Left 100 S C D (fap D)) {k : Nat} {i : Int} (hk : k < 100) (hi : i = (k : Int) ∨ i = ((k + 100 : Nat) : Int)) : PgW.Left 100 S C (D.fail i) (fap (D.fail i)) := by
  cases hm : D.may i with
  | false => rw [show D.fail i = D by unfold Dv.fail; rw [hm]; rfl]; exact h
  | true =>
    have hb := But.fail D i
    have hfa : (D.fail i).fa i = true := by
      rw [show D.fail i = { D with fi := upd D.fi i true }.fault i by unfold Dv.fail; rw [hm]; rfl]
      exact upd_same _ _ _
    refine left_imp (h.but (by decide) hb hk hi (by rw [kept_fail]; exact h.kb _)) (fun a ha hf => ?_) (by decide)
    by_cases e : a = k
    · subst e
      unfold fap at hf
      rcases hi with rfl | rfl
      · rw [hfa] at hf; cases hf
      · rw [hfa, Bool.or_true] at hf; cases hf
    · show (if a = k then true else fap D a) = false
      rw [if_neg e, ← fap_but hb hk ha hi e]
      exact hf
theorem left_spoil {S : St} {C : Nat → List Nat} {D : Dv} (h : PgW.Left 100 S C D (fap D)) {k : Nat} {i : Int} (hk : k < 100) (hi : i = (k : Int) ∨ i = ((k + 100 : Nat) : Int)) (p : Int) (t : Nat) : PgW.Left 100 S C (D.spoil i p t) (fap (D.spoil i p t)) := by
  cases hm : D.mayS i p t with
  | false => rw [spoil_no hm]; exact h
  | true =>
    have hb := But.spoil D i p t
    have hfa : (D.spoil i p t).fa i = true := by
      rw [spoil_yes hm]
      exact upd_same _ _ _
    refine left_imp (h.but (by decide) hb hk hi (kept_spoil (h.kb _) _ _)) (fun a ha hf => ?_) (by decide)
    by_cases e : a = k
    · subst e
      unfold fap at hf
      rcases hi with rfl | rfl
      · rw [hfa] at hf; cases hf
      · rw [hfa, Bool.or_true] at hf; cases hf
    · show (if a = k then true else fap D a) = false
      rw [if_neg e, ← fap_but hb hk ha hi e]
      exact hf
/-- a device without a root, of which copies are wrong, opened -/
theorem lame_open0 {Y : List Nat} {bs : List Addr} {w : World} {lo b n c d : Nat} {V : Int → Option (List Nat)} {C : Nat → List Nat} {np : Nat} {m : Mp} {D : Dv} (h : LameAt Y bs w lo b n c d V C 0 np m D St0) :
    Calls Tryz.prog 18 #[ptr d] w fun e w' => (∃ s', e = .returned (.tuple #[ptr s', .nilIface]) ∧ Lim Y bs w' lo b n c s' d V C 0 np) ∧ Below lo w w' := by
  have hbl := h.bl
  have hb1 := h.b1
  have hb2 := h.b2
  have hbe : bestOf D (GeoW.half D.blocks) = ⟨0, []⟩ := by
    rw [h.bl]
    refine best_none fun s hs => ?_
    cases ho : oneOf D (s : Int) with
    | none => rfl
    | some q =>
      have h1 := h.li.le s hs q ho
      have h2 : RootP.Good q := by
        unfold oneOf at ho
        obtain ⟨l, _, hl⟩ := Option.bind_eq_some_iff.1 ho
        exact (parse_some hl).1
      have h3 := h2.e1
      have h4 : q.ep ≤ ((St0.ep : Nat) : Int) := h1
      have h5 : (St0.ep : Nat) = 0 := rfl
      omega
  have ho := open_none bs lo d n m D w h.at_ (h.ev.sub (by decide)) (by omega) (by omega) h.los h.li.down h.li.bytes hbe
  refine ho.mono ?_
  rintro e w' ⟨I', rfl, k, hd, hH, _, hic, hio, ⟨htb, hra⟩, hb⟩
  refine ⟨⟨I'.s, rfl, m, D, I', St0, k, ?_, rfl, hd, by rw [hH, h.bl], h.bl, h.b1, h.b2, h.cl, h.np, by omega, h.ev.below hb, Nat.le_trans h.los hb.size, rfl, fun y hy => ⟨Nat.lt_of_lt_of_le (h.out y hy).1 hb.size, fun hm => ?_⟩⟩, hb.mono h.los⟩
  · rw [hH, h.bl]; exact h.li
  · have hy2 := h.out y hy
    rcases List.mem_cons.1 hm with hm | hm
    · omega
    · rcases List.mem_append.1 hm with hm | hm
      · obtain ⟨o, e⟩ := mem_raB hm
        rw [hra] at e
        cases e
      · rcases hio y hm with hm | hm
        · exact hy2.2 hm
        · omega
set_option maxHeartbeats 800000 in
theorem reopenF_w (Y : List Nat) (bs : List Addr) (lo b n c d ep np : Nat) (C : Nat → List Nat) (m : Mp) (D : Dv) (S : St) (gs : List (List Kv)) (w : World) (h : LameAt Y bs w lo b n c d (PgOf (gs.map encG)) C ep np m D S) (hz : ep = 0 → S = St0)
    (hg : ∀ g ∈ gs, (∀ p ∈ g, Kok p) ∧ (encG g).length ≤ 1000 ∧ g.length ≤ 1000 ∧ g ≠ []) (hd : (gs.flatten.map Prod.fst).Nodup) (hq : gs.length ≤ 250) (hf : gs.flatten.length ≤ 1000) (hn : n < 590000) (hc : c < 590000) (hnp : np ≤ 1000) (hep : ep < 1000000) :
    Calls Tryz.prog 36 #[ptr d] w fun e w' => (∃ B k l nk, e = .returned (ptr k) ∧ KAt w' B k l nk (Fof gs.flatten) gs.flatten.length) ∧ Below lo w w' := by
  have ho : Calls Tryz.prog 18 #[ptr d] w fun e w' => (∃ s', e = .returned (.tuple #[ptr s', .nilIface]) ∧ Lim Y bs w' lo b (n + 400 + 3 * np) (c + 10) s' d (PgOf (gs.map encG)) C ep (np + 7)) ∧ Below lo w w' := by
    rcases Nat.eq_zero_or_pos ep with h0 | h0
    · subst h0
      obtain rfl := hz rfl
      refine (lame_open0 h).mono ?_
      rintro e w' ⟨⟨s', rfl, m', D', I', S', hl⟩, hb⟩
      exact ⟨⟨s', rfl, m', D', I', S', hl.mono (by omega) (by omega) (by omega)⟩, hb⟩
    · refine (h.open_ (by omega) (by omega) hnp hep h0).mono ?_
      rintro e w' ⟨h1, h2, _⟩
      exact ⟨h1, h2⟩
  have hlo := h.los
  have HG := hid hg
  have HD := hid hd
  clear h hg hd
  go_enter Tryz.func36, Tryz.ntmps36
  go_wp2_with fail
  refine ho.mono ?_
  rintro e w1 ⟨⟨s', rfl, h1⟩, b1⟩
  obtain ⟨m', D', I', S', hL⟩ := h1
  have hl1 := hL.los
  have hX : ∀ x ∈ I'.p :: own I'.d m', lo ≤ x := fun x hx => by
    rcases List.mem_cons.1 hx with rfl | hx
    · exact hL.at_.pr.lop
    · exact hL.at_.pr.dev.own_lo x hx
  have hk := kopen_w Y bs lo b _ _ s' d ep _ C m' D' I' S' gs w1 hL HG.out HD.out hq hf (by omega) (by omega) (by omega)
  have HB1 := hid b1
  have HX := hid hX
  clear ho hL b1 hX
  go_wp2_with fail
  refine hk.mono ?_
  rintro e w2 ⟨k, l, nk, rfl, hK, ht⟩
  have HK := hid hK
  have HB2 := hid (HB1.out.trans (ht.below hl1 HX.out))
  clear hk hK ht
  go_wp2_with fail
  go_ret
  exact ⟨⟨_, _, _, _, rfl, HK.out⟩, HB2.out⟩
/-- a key that a map has, asked for with ok -/
theorem TextMap.look_yes {w : World} {base b n : Nat} {F : List UInt8 → Option (List Nat)} {np : Nat} (h : TextMap w base b n F np) {K : List UInt8} (hs : K.length ≤ 40) {l : List Nat} (hF : F K = some l) :
    ∃ g cap, (∀ w' : World, w'.heap[b]? = w.heap[b]? → (Instr.lookup 126 (.map (some b)) (.string ⟨K.toArray⟩) true).run Tryz.prog w' = .ok (.tuple #[.slice (some ⟨g, 0, none⟩) l.length cap, .bool true]) w') ∧ Nums .u8 w (some ⟨g, 0, none⟩) l.length cap l ∧ 0 < l.length := by
  obtain ⟨D, h1, _, h3⟩ := h
  have := h3 K
  rw [hF] at this
  obtain ⟨hh, g, cap, b1, b2, b3, b4⟩ := this
  refine ⟨g, cap, fun w' e => ?_, b2, b4⟩
  obtain ⟨v, ps, hr, hv⟩ := (ownsMap_of h1 e).look_ok lawS Tryz.underlying126 (zeroRow w') (zd := .nil) (zp := []) rfl (keyS (s := ⟨K.toArray⟩) (by show K.toArray.size ≤ maxLen; simp; unfold maxLen; omega))
  rw [hh] at hr
  rw [b1] at hv
  rw [rowR_row hv] at hr
  exact hr
set_option maxHeartbeats 1600000 in
theorem kget_w (base k l n : Nat) (F : List UInt8 → Option (List Nat)) (np : Nat) (kg kc : Nat) (K : List UInt8) (x : List Nat) (w : World) (h : KAt w base k l n F np) (hk : Nums .u8 w (some ⟨kg, 0, none⟩) K.length kc (KeepP.nat K)) (h40 : K.length ≤ 40) (hF : F K = some x) (hx : x.length ≤ 120) :
    Calls Tryz.prog 44 #[ptr k, .slice (some ⟨kg, 0, none⟩) K.length kc] w fun e w' => (∃ a cap, e = .returned (.tuple #[.slice a x.length cap, .bool true]) ∧ Nums .u8 w' a x.length cap x) ∧ Below w.heap.size w w' := by
  obtain ⟨g, gc, hl, hn, h0⟩ := TextMap.look_yes h.map h40 hF
  have hlk := fun nn => hl (w.drewN nn) ((below_drewN (Below.refl w.heap.size w) nn).block l h.lt)
  have c1 := fun nn => (h.below (below_drewN (Below.refl w.heap.size w) nn)).c1
  have cv := fun nn => conv (Nums.below hk (below_drewN (Below.refl w.heap.size w) nn))
  simp only [of_nat] at cv
  go_enter Tryz.func44, Tryz.ntmps44
  have HCL := hid (fun (wx : World) (hb : Below w.heap.size w wx) => RefW.clone_w (some ⟨g, 0, none⟩) x.length gc x wx (Nums.below hn hb) (by omega))
  clear h hk hn hl
  go_wp2_with fail
  go_quiet (fail)
  go_wp2_with fail
  refine (HCL.out _ (by first | exact below_drewN (Below.refl _ _) _ | exact Below.refl _ _ | exact (Below.refl _ _).drew)).mono ?_
  rintro e w3 ⟨v, rfl, own, hb⟩
  obtain ⟨a, cap, rfl, hr⟩ := ownsRow_slice own
  have HR := hid hr
  have HB3 := hid ((below_drewN (Below.refl w.heap.size w) nq).trans hb)
  clear own hb hr
  go_wp2_with fail
  exact bodyPost_ret (v := .tuple #[.slice a x.length cap, .bool true]) (by simp [results, Tryz.results44, go_sem]) rfl ⟨⟨_, _, rfl, HR.out⟩, HB3.out⟩
/-- the i-th key, its value -/
def key2 (i : Nat) : List UInt8 := [9, UInt8.ofNat i]
def val2 (i : Nat) : List Nat := [i, 5]
theorem key2_inj {i j : Nat} (hi : i < 256) (hj : j < 256) (h : key2 i = key2 j) : i = j := by
  unfold key2 at h
  simp only [List.cons.injEq, and_true, true_and] at h
  have h1 := congrArg UInt8.toNat h
  simp at h1
  omega
theorem key2_nat {i : Nat} (hi : i < 256) : KeepP.nat (key2 i) = [9, i] := by
  unfold key2 KeepP.nat
  simp
  omega
/-- what was put -/
structure FInv (F : List UInt8 → Option (List Nat)) (j : Nat) : Prop where
  mem : ∀ s x, F s = some x → ∃ i, i < j ∧ s = key2 i ∧ x = val2 i
  at_ : ∀ i, i < j → F (key2 i) = some (val2 i)
theorem FInv.none : FInv (fun _ => Option.none) 0 := ⟨fun s x h => (by cases h), fun i hi => absurd hi (Nat.not_lt_zero _)⟩
theorem FInv.fresh {F : List UInt8 → Option (List Nat)} {j : Nat} (h : FInv F j) (hj : j < 256) : F (key2 j) = Option.none := by
  cases hF : F (key2 j) with
  | none => rfl
  | some x =>
    obtain ⟨i, hi, e, _⟩ := h.mem _ _ hF
    have := key2_inj hj (by omega) e
    omega
theorem FInv.put {F : List UInt8 → Option (List Nat)} {j : Nat} (h : FInv F j) (hj : j < 256) : FInv (updS F (key2 j) (some (val2 j))) (j + 1) := by
  refine ⟨fun s x hx => ?_, fun i hi => ?_⟩
  · by_cases hs : s = key2 j
    · subst hs
      rw [updS_same] at hx
      cases hx
      exact ⟨j, by omega, rfl, rfl⟩
    · rw [updS_other _ _ hs] at hx
      obtain ⟨i, hi, e, e2⟩ := h.mem s x hx
      exact ⟨i, by omega, e, e2⟩
  · by_cases hs : i = j
    · subst hs
      exact updS_same _ _ _
    · rw [updS_other _ _ (fun e => hs (key2_inj (by omega) hj e))]
      exact h.at_ i (by omega)
theorem FInv.ok {F : List UInt8 → Option (List Nat)} {j : Nat} (h : FInv F j) (hj : j ≤ 256) (s : List UInt8) (x : List Nat) (hF : F s = some x) : Kok (s, x) := by
  obtain ⟨i, hi, rfl, rfl⟩ := h.mem s x hF
  refine ⟨by simp [key2], by simp [key2], by simp [val2], by simp [val2], fun y hy => ?_⟩
  simp [val2] at hy
  omega
theorem FInv.enc {F : List UInt8 → Option (List Nat)} {j : Nat} (h : FInv F j) {ks : List (List UInt8)} (hS : SKeys F ks) : ∀ p ∈ kvs F ks, (encK p).length = 6 := by
  intro p hp
  obtain ⟨K, hK, rfl⟩ := List.mem_map.1 hp
  obtain ⟨x, hx⟩ := Option.isSome_iff_exists.1 ((hS.mem K).1 hK)
  obtain ⟨i, _, rfl, rfl⟩ := h.mem _ _ hx
  rw [encK_length, hx]
  rfl
theorem FInv.pages {F : List UInt8 → Option (List Nat)} {j : Nat} (h : FInv F j) (hj : j ≤ 40) {ks : List (List UInt8)} (hS : SKeys F ks) (hl : ks.length = j) : (pagesOf (kvs F ks)).length ≤ 1 := by
  obtain ⟨g1, g2⟩ := groups_count (z := 6) (c := 41) (by decide) (fun k => by omega) (h.enc hS)
  rw [kvs_length, hl] at g1 g2
  rw [pagesOf_length]
  rcases Nat.eq_zero_or_pos j with h0 | h0
  · omega
  · have := g2 h0
    omega
/-- a keep in the law's loop: j pairs were put -/
def KF (bs : List Addr) (lo s d q l j i : Nat) (w : World) : Prop :=
  ∃ F Y nn c ep pa pc ps, FInv F j ∧ nn ≤ 400 + 1600 * i ∧ c ≤ 200 * i ∧ ep ≤ i ∧ ps.length ≤ 1 ∧ Kept Y bs w lo 400 nn c s d ep q l j F j pa pc ps
theorem KF.below {bs : List Addr} {lo s d q l j i : Nat} {w w' : World} (h : KF bs lo s d q l j i w) (hb : Below w.heap.size w w') : KF bs lo s d q l j i w' := by
  obtain ⟨F, Y, nn, c, ep, pa, pc, ps, h1, h2, h3, h4, h5, h6⟩ := h
  exact ⟨F, Y, nn, c, ep, pa, pc, ps, h1, h2, h3, h4, h5, h6.below hb⟩
theorem KF.skip {bs : List Addr} {lo s d q l j i : Nat} {w : World} (h : KF bs lo s d q l j i w) : KF bs lo s d q l j (i + 1) w := by
  obtain ⟨F, Y, nn, c, ep, pa, pc, ps, h1, h2, h3, h4, h5, h6⟩ := h
  exact ⟨F, Y, nn, c, ep, pa, pc, ps, h1, by omega, by omega, by omega, h5, h6⟩
theorem KF.put {bs : List Addr} {lo s d q l j i : Nat} {w : World} (h : KF bs lo s d q l j i w) (hj : j < 256) {kg kc : Nat} (hk : Nums .u8 w (some ⟨kg, 0, none⟩) 2 kc (KeepP.nat (key2 j))) {va : Option Addr} {vc : Nat} (hv : Nums .u8 w va 2 vc (val2 j)) :
    Calls Tryz.prog 34 #[ptr q, .slice (some ⟨kg, 0, none⟩) 2 kc, .slice va 2 vc] w fun e w' => e = .returned .nilIface ∧ KF bs lo s d q l (j + 1) i w' ∧ Below lo w w' := by
  obtain ⟨F, Y, nn, c, ep, pa, pc, ps, h1, h2, h3, h4, h5, h6⟩ := h
  refine (put_w lo q l j F j kg kc (key2 j) va vc (val2 j) w h6.kp.at_ hk (by simp [key2]) (by simp [key2]) hv (by simp [val2]) (by simp [val2]) (by omega)).mono ?_
  rintro e w' ⟨rfl, hK, ht⟩
  rw [h1.fresh hj] at hK
  refine ⟨rfl, ⟨_, Y, nn, c, ep, pa, pc, ps, h1.put hj, h2, h3, h4, h5, h6.put hK ht⟩, ht.below h6.st.lo fun x hx => by rw [List.mem_singleton.1 hx]; exact h6.kp.at_.bl⟩
/-- a commit -/
theorem KF.commit {bs : List Addr} {lo s d q l j i : Nat} {w : World} (h : KF bs lo s d q l j i w) (hj : j ≤ 40) (hi : i ≤ 40) :
    Calls Tryz.prog 35 #[ptr q] w fun e w' => e = .returned .nilIface ∧ KF bs lo s d q l j (i + 1) w' ∧ Below lo w w' := by
  obtain ⟨F, Y, nn, c, ep, pa, pc, ps, h1, h2, h3, h4, h5, h6⟩ := h
  refine (kcommit_w Y bs lo 400 nn c s d ep q l j j 1 F pa pc ps w h6 (h1.ok (by omega)) (by omega) (fun ks hS hl => h1.pages hj hS hl) (by omega) (by decide) (by omega) (by omega) (by omega) (by omega)).mono ?_
  rintro e w' ⟨rfl, ⟨Y', n', c', ep', la, lc, ks, e1, e2, e3, hS, hl, hK⟩, hb⟩
  exact ⟨rfl, ⟨F, Y', n', c', ep', la, lc, _, h1, by omega, by omega, by omega, h1.pages hj hS hl, hK⟩, hb⟩
/-- the last commit: the device that is left -/
theorem KF.last {bs : List Addr} {lo s d q l j i : Nat} {w : World} (h : KF bs lo s d q l j i w) (hj : j ≤ 40) (hi : i ≤ 40) :
    Calls Tryz.prog 35 #[ptr q] w fun e w' => e = .returned .nilIface ∧ (∃ (F : List UInt8 → Option (List Nat)) (Y : List Nat) (nn c ep : Nat) (C : Nat → List Nat) (m : Mp) (D : Dv) (S : St) (gs : List (List Kv)), FInv F j ∧ nn ≤ 70000 ∧ c ≤ 10000 ∧ ep ≤ 100 ∧ LameAt Y bs w' lo 400 nn c d (PgOf (gs.map encG)) C ep 0 m D S ∧ PgW.Left 100 S C D (fap D) ∧ (ep = 0 → S = St0) ∧ (∀ g ∈ gs, (∀ p ∈ g, Kok p) ∧ (encG g).length ≤ 1000 ∧ g.length ≤ 1000 ∧ g ≠ []) ∧ (gs.flatten.map Prod.fst).Nodup ∧ gs.length ≤ 250 ∧ gs.flatten.length = j ∧ Fof gs.flatten = F) ∧ Below lo w w' := by
  obtain ⟨F, Y, nn, c, ep, pa, pc, ps, h1, h2, h3, h4, h5, h6⟩ := h
  have hok := h1.ok (show j ≤ 256 by omega)
  refine (kcommit_w Y bs lo 400 nn c s d ep q l j j 1 F pa pc ps w h6 hok (by omega) (fun ks hS hl => h1.pages hj hS hl) (by omega) (by decide) (by omega) (by omega) (by omega) (by omega)).mono ?_
  rintro e w' ⟨rfl, ⟨Y', n', c', ep', la, lc, ks, e1, e2, e3, hS, hl, hK⟩, hb⟩
  obtain ⟨r1, r2, r3, r4⟩ := read_ok hok hS (by omega)
  have hp := h1.pages hj hS hl
  rw [pagesOf_length] at hp
  obtain ⟨C, m, D, S, g1, g2, g3⟩ := hK.st.left0
  exact ⟨rfl, ⟨F, Y', n', c', ep', C, m, D, S, groups (kvs F ks), h1, by omega, by omega, by omega, g1, left_imp g2 (fun _ _ _ => rfl) (by decide), g3, r1, r2, by omega, by rw [r3, hl], r4⟩, hb⟩
end Go.Proofs.YtbjfgdahfpfgdaaGreatDoor.KeepW

namespace Go.Proofs.YtbjfgdahfpfgdaaGreatDoor.DevG
open Go Go.RowKit Go.Maps Go.Proofs.YtbjfgdahfpfgdaaGreatDoor.Mem Go.Proofs.YtbjfgdahfpfgdaaGreatDoor.MapsW
set_option linter.unusedVariables false

/-- a word with a bit laid on -/
theorem or_u32 (a : Int) (k : Nat) (hk : 0 < k) (hk2 : k < 4294967296) : ∃ t : Nat, bits .or .u32 a (k : Int) = (t : Int) ∧ t ≠ 0 ∧ t < 4294967296 := by
  have e : (BitVec.ofInt 32 (k : Int)).toNat = k := by
    rw [BitVec.toNat_ofInt]; omega
  have hlt := (BitVec.ofInt 32 a ||| BitVec.ofInt 32 (k : Int)).isLt
  refine ⟨(BitVec.ofInt 32 a ||| BitVec.ofInt 32 (k : Int)).toNat, ?_, ?_, by omega⟩
  · show IntKind.u32.wrap ((BitVec.ofInt 32 a ||| BitVec.ofInt 32 (k : Int)).toNat : Int) = _
    generalize (BitVec.ofInt 32 a ||| BitVec.ofInt 32 (k : Int)).toNat = x at hlt ⊢
    rw [IntKind.wrap_u32]
    omega
  · rw [BitVec.toNat_or, e]
    have := Nat.right_le_or (n := (BitVec.ofInt 32 a).toNat) (m := k)
    omega
/-- a fault: what it leaves -/
structure Faulted (D D' : Dv) (i : Int) (x : Option (List Nat)) : Prop where
  idle : D'.Idle
  blocks : D'.blocks = D.blocks
  read : ∀ j, D'.read j = if j = i then x else D.read j
  may : ∀ j, j ≠ i → D'.may j = D.may j
end Go.Proofs.YtbjfgdahfpfgdaaGreatDoor.DevG
namespace Go.Proofs.YtbjfgdahfpfgdaaGreatDoor.RootW
open Go Go.RowKit Go.Maps Go.Proofs.YtbjfgdahfpfgdaaGreatDoor.Mem Go.Proofs.YtbjfgdahfpfgdaaGreatDoor.MapsW Go.Proofs.YtbjfgdahfpfgdaaGreatDoor.RootP Go.Proofs.YtbjfgdahfpfgdaaGreatDoor.DevG
set_option linter.unusedVariables false

/-- the roots of RootFaults -/
def rt (i : Nat) : Rt := madeR i [(i : Int), 5]
theorem rt_fine {i : Nat} (h0 : 0 < i) (h : i ≤ 6000) : Fine (rt i) := by
  refine ⟨⟨?_, ?_, ?_, ?_⟩, ?_⟩
  · show (1 : Int) ≤ (i : Int); omega
  · show (i : Int) ≤ 1099511627776; omega
  · show 2 ≤ 16; decide
  · intro x hx
    obtain ⟨z, hz, rfl⟩ := List.mem_map.1 hx
    show 0 ≤ z ∧ z ≤ 6000
    simp only [List.mem_cons, List.not_mem_nil, or_false] at hz
    omega
  · intro x hx
    obtain ⟨z, hz, rfl⟩ := List.mem_map.1 hx
    exact sumOf_lt z
/-- n - 1 saves and one more: the device -/
structure Full (E : Dv) (k : Nat) : Prop where
  idle : E.Idle
  blocks : E.blocks = 400
  new : ∀ s ∈ [(k + 2) % 2, (k + 2) % 2 + 100], E.read (s : Int) = some (enc (rt (k + 2)))
  old : ∀ s ∈ [(k + 1) % 2, (k + 1) % 2 + 100], E.read (s : Int) = some (enc (rt (k + 1)))
  may : ∀ s ∈ spots 100, E.may (s : Int) = true
theorem Full.one {E : Dv} {k : Nat} (h : Full E k) (hk : k ≤ 1000) : ∀ s ∈ spots 100, oneOf E (s : Int) = if s % 100 = (k + 2) % 2 then some (rt (k + 2)) else some (rt (k + 1)) := by
  intro s hs
  have hm := spots_mem hs
  by_cases c : s % 100 = (k + 2) % 2
  · rw [if_pos c]
    exact one_of (rt_fine (by omega) (by omega)) (h.new s (by simp only [List.mem_cons, List.not_mem_nil, or_false]; omega))
  · rw [if_neg c]
    exact one_of (rt_fine (by omega) (by omega)) (h.old s (by simp only [List.mem_cons, List.not_mem_nil, or_false]; omega))
end Go.Proofs.YtbjfgdahfpfgdaaGreatDoor.RootW
