/- A pair's first copy read, on a device that may be armed; The walks of page's lay, says, table; What a table's bytes say; A table read into a store; All tables of a store read give its places; The walk of page.Open; copy of a slice of places. -/
import Derived.Test.YtbjfgdahfpfgdaaGreatDoorKeepFaultsP11
import Derived.Test.YtbjfgdahfpfgdaaGreatDoorKeepFaultsP9
import Derived.Test.YtbjfgdahfpfgdaaGreatDoorKeepFaultsP3
import Derived.Test.YtbjfgdahfpfgdaaGreatDoorKeepFaultsP5
import Derived.Test.YtbjfgdahfpfgdaaGreatDoorKeepFaultsP7
import Derived.Deep.RegionLaw
import Derived.Deep.CutRange
import Derived.Test.YtbjfgdahfpfgdaaGreatDoorKeepFaultsP8
import Derived.Test.YtbjfgdahfpfgdaaGreatDoorKeepFaultsP12
import Derived.Test.YtbjfgdahfpfgdaaGreatDoorKeepFaultsP6
import Derived.Laws.IdiomCopy
import Derived.Laws.CopyOwn
namespace Go.Proofs.YtbjfgdahfpfgdaaGreatDoor.PgW
open Go Go.RowKit Go.Maps Go.Proofs.YtbjfgdahfpfgdaaGreatDoor.Mem Go.Proofs.YtbjfgdahfpfgdaaGreatDoor.MapsW Go.Proofs.YtbjfgdahfpfgdaaGreatDoor.SeeW Go.Proofs.YtbjfgdahfpfgdaaGreatDoor.DevG Go.Proofs.YtbjfgdahfpfgdaaGreatDoor.PairG Go.Proofs.YtbjfgdahfpfgdaaGreatDoor.RefsW Go.Proofs.YtbjfgdahfpfgdaaGreatDoor.PgP
set_option linter.unusedVariables false
set_option maxRecDepth 100000

set_option maxHeartbeats 1600000 in
theorem pone_w (bs : List Addr) (lo d n : Nat) (m : Mp) (D : Dv) (p h c : Nat) (i sum : Nat) (w : World) (k : PR w lo d n m D p h c) (hu : D.down = false) (hB : Ev w lo bs five) (hi : i < D.blocks) (hbt : ∀ l, D.read i = some l → Crc.Bytes l) :
    Calls Tryz.prog 99 #[ptr p, .int .i64 i, .int .u32 sum] w (PairG.One w (D.read i) sum) := by
  obtain ⟨c0, c1, c2, c3, f3⟩ := k.c
  have hr := read_up bs d lo n m D i w k.dev hB (fits_nat (by have := k.most; omega)) hu (by omega)
  unfold PairG.One
  cases hD : D.read i with
  | some l =>
    rw [hD] at hr
    have hb := hbt l hD
    go_enter Tryz.func99, Tryz.ntmps99
    go_wp2_with fail
    refine hr.mono ?_
    rintro e w1 ⟨⟨g, cap, rfl, hn, hg⟩, hb1⟩
    obtain ⟨aI, haI, hAI⟩ := (hB.below hb1).get 6 _ (by decide) rfl
    have hA1 := hAI.1
    have he := fun w => run_eql_iface_nil_left (P := Tryz.prog) (w := w) Err.tp (.pointer (some aI)) Tryz.underlying33
    go_wp2_with fail
    refine (CrcW.sum_w _ 256 cap l _ hn hb).mono ?_
    rintro e w2 ⟨rfl, rfl⟩
    have hse : (((Crc.sum l : Nat) : Int) == (sum : Int)) = decide (Crc.sum l = sum) := by
      rw [Bool.eq_iff_iff, beq_iff_eq, decide_eq_true_eq]; omega
    generalize hgs : Crc.sum l = s at *
    have HS := hid hse
    have HG := hid hgs
    clear hse hgs
    go_wp2
    refine bodyPost_ret (v := .tuple #[.slice (some ⟨g, 0, none⟩) 256 cap, .bool ((s : Int) == (sum : Int)), .nilIface]) (by simp [results, Tryz.results99, go_sem]) rfl ⟨⟨g, cap, by rw [HS.out, HG.out], hn, hg⟩, hb1⟩
  | none =>
    rw [hD] at hr
    go_enter Tryz.func99, Tryz.ntmps99
    go_wp2_with fail
    refine hr.mono ?_
    rintro e w1 ⟨⟨aI', haI', rfl⟩, hb1⟩
    obtain ⟨aI, haI, hAI⟩ := (hB.below hb1).get 6 _ (by decide) rfl
    rw [haI] at haI'
    cases haI'
    have hA1 := hAI.1
    obtain ⟨i1, hi1, hi2⟩ : ∃ i, Tryz.prog.info? Err.tp = some i ∧ i.comparable = true := ⟨_, rfl, by kernel_rfl⟩
    obtain ⟨j, hj⟩ : ∃ j, Tryz.prog.info? 263 = some j := ⟨_, rfl⟩
    have he := fun w => run_eql_iface_ptr_same (P := Tryz.prog) (w := w) aI' Tryz.underlying33 Tryz.underlying247 hi1 hi2 hj
    go_wp2
    refine bodyPost_ret (v := .tuple #[.slice none 0 0, .bool false, .nilIface]) (by simp [results, Tryz.results99, go_sem]) rfl ⟨rfl, hb1⟩

set_option maxHeartbeats 3200000 in
theorem pread_first (bs : List Addr) (lo d n : Nat) (m : Mp) (D : Dv) (p h c : Nat) (i s : Nat) (w : World) (k : PR w lo d n m D p h c) (hu : D.down = false) (hB : Ev w lo bs five) (hi : i < h) (hbt : ∀ j l, D.read j = some l → Crc.Bytes l) {l : List Nat} (h1 : D.read i = some l) (h2 : Crc.sum l = s) :
    Calls Tryz.prog 56 #[ptr p, PairG.Rf i s] w fun e w' => (∃ g cap, e = .returned (.tuple #[.slice (some ⟨g, 0, none⟩) 256 cap, .nilIface]) ∧ Nums .u8 w' (some ⟨g, 0, none⟩) 256 cap l ∧ w.heap.size ≤ g) ∧ Below w.heap.size w w' := by
  have hhf := k.half
  have hmo := k.most
  have hf : Fits (i : Int) := fits_nat (by omega)
  have hd : decide (0 ≤ (i : Int) ∧ (i : Int) < h) = true := by rw [decide_eq_true_eq]; omega
  have bx := (Below.refl w.heap.size w).alloc (Nat.le_refl _) (.cells #[.int .i64 i, .int .u32 s] 111)
  obtain ⟨q0, q1⟩ := new2 w (.int .i64 i) (.int .u32 s) 111
  have kx := k.below bx
  have ho := pone_w bs lo d n m D p h c i s _ kx hu (hB.below bx) (by omega) (fun l hl => hbt i l hl)
  rw [h1] at ho
  unfold PairG.One at ho
  simp only [h2, decide_true] at ho
  go_enter Tryz.func56, Tryz.ntmps56
  go_wp2_with fail
  refine (pis_w lo d n m D p h c i _ kx hf).mono ?_
  rintro e w' ⟨rfl, rfl⟩
  rw [hd]
  go_wp2_with fail
  refine ho.mono ?_
  rintro e w1 ⟨⟨g, cap, rfl, hn, hg⟩, hb1⟩
  have hb2 : Below w.heap.size w w1 := bx.trans (hb1.mono (by simp))
  have k2 := kx.below hb1
  go_wp2
  refine bodyPost_ret (v := .tuple #[.slice (some ⟨g, 0, none⟩) 256 cap, .nilIface]) (by simp [results, Tryz.results56, go_sem]) rfl ⟨⟨g, cap, rfl, hn, by simp at hg; omega⟩, hb2⟩

set_option maxHeartbeats 1600000 in
theorem popenR_w (b : Nat) (lo d n : Nat) (m : Mp) (D : Dv) (w : World) (k : At w lo d n m D) (h1 : 300 ≤ D.blocks) (h2 : D.blocks ≤ 6000) (hlo : lo ≤ w.heap.size) :
    Calls Tryz.prog 53 #[ptr d] w fun e w' => ∃ p, e = .returned (.tuple #[ptr p, .nilIface]) ∧ PR w' lo d n m D p (GeoW.half D.blocks) 0 ∧ Below w.heap.size w w' ∧ w.heap.size ≤ p := by
  go_enter Tryz.func53, Tryz.ntmps53
  go_wp2_with fail
  refine (DevG.blocks_w d lo n m D _ k).mono ?_
  rintro e w' ⟨rfl, rfl⟩
  go_wp2_with fail
  refine (GeoW.of_good D.blocks _ h1 h2).mono ?_
  rintro e w1 ⟨rfl, hb1⟩
  have k1 := k.below hb1
  have hhf := GeoW.half_le D.blocks
  have z1 := hb1.size
  go_wp2
  have bb : ∀ o o', Below w1.heap.size w1 ((w1.alloc o).alloc o') := fun o o' => ((Below.refl _ w1).alloc (Nat.le_refl _) o).alloc (by simp) o'
  refine bodyPost_ret (v := .tuple #[ptr (w1.heap.size + 1), .nilIface]) (by simp [results, Tryz.results53, go_sem]) rfl ⟨w1.heap.size + 1, rfl, ⟨k1.below (bb _ _), alloc_at (by simp) _, hhf, h2, by omega⟩, hb1.trans ((bb _ _).mono z1), by omega⟩
end Go.Proofs.YtbjfgdahfpfgdaaGreatDoor.PgW

namespace Go.Proofs.YtbjfgdahfpfgdaaGreatDoor.PgW
open Go Go.RowKit Go.Maps Go.Proofs.YtbjfgdahfpfgdaaGreatDoor.Mem Go.Proofs.YtbjfgdahfpfgdaaGreatDoor.MapsW Go.Proofs.YtbjfgdahfpfgdaaGreatDoor.DevG Go.Proofs.YtbjfgdahfpfgdaaGreatDoor.RootP Go.Proofs.YtbjfgdahfpfgdaaGreatDoor.RootW Go.Proofs.YtbjfgdahfpfgdaaGreatDoor.PgP
set_option linter.unusedVariables false
set_option maxRecDepth 100000

set_option maxHeartbeats 1600000 in
/-- a number's bytes laid -/
theorem play_w (base g N cap : Nat) (L : List Nat) (o len c n : Nat) (w : World) (h : OwnN w base 5 .u8 g N cap L) (hb : base ≤ g) (ho : o + len ≤ N) (hN : N ≤ 1000) (hlc : len ≤ c) (hc : c ≤ 1000) (hn : n < 18446744073709551616) (hk : len ≤ 8) :
    Calls Tryz.prog 124 #[.slice (some ⟨g, o, none⟩) len c, .int .u64 n] w fun e w' => e = .returned (.tuple #[]) ∧ OwnN w' base 5 .u8 g N cap (lays L o (le len n)) ∧ Below base w w' ∧ ∀ q, q ≠ g → w'.heap[q]? = w.heap[q]? := by
  have HL := hid (OwnN.len h)
  go_enter Tryz.func124, Tryz.ntmps124
  go_wp2
  go_loopw [7] (fun i wr => ∃ k : Nat, k ≤ len ∧ i = .int .i64 k ∧ OwnN wr base 5 .u8 g N cap (lays L o ((le len n).take k)) ∧ Below base w wr ∧ ∀ q, q ≠ g → wr.heap[q]? = w.heap[q]?) (fun i _ => len - (RowKit.intOf i).toNat)
  case atStart => exact ⟨0, by omega, rfl, by simpa [lays] using h, Below.refl _ _, fun _ _ => rfl⟩
  case round =>
    clear h
    obtain ⟨k, hk1, rfl, hown, hb1, hq⟩ := hrel
    have HQ := hid hq
    clear hq
    by_cases hlt : k < len
    · have HS := hid (show lays L o ((le len n).take (k + 1)) = (lays L o ((le len n).take k)).set (o + k) (n / 256 ^ k % 256) by
        rw [le_take_succ _ _ _ hlt, lays_snoc, List.length_take, le_length, Nat.min_eq_left (by omega)])
      have hlen : (lays L o ((le len n).take k)).length = N := by rw [lays_length]; exact HL.out
      obtain ⟨y, hy⟩ : ∃ y, wr.cell? ⟨g, o + k, none⟩ = some y := ⟨_, OwnN.cell hown (j := o + k) (by omega)⟩
      have hf := World.ownsRow.frozenAt hown (o + k)
      have HB := hid (shr_byte n k (by omega))
      have k8 : 8 * k < 64 := by omega
      have HO := hid hown
      clear hown hlen
      go_wp2
      go_roundw
      case rel => exact ⟨k + 1, by omega, by go_num, by rw [HS.out]; rw [HB.out]; exact ownb HO.out (o + k) _, hb1.setCell hb _, fun q hq => (heap_setCell_other _ ⟨g, o + k, none⟩ q _ hq).trans (HQ.out q hq)⟩
      case measure => simp [RowKit.intOf]; omega
    · obtain rfl : k = len := by omega
      rw [List.take_of_length_le (by rw [le_length]; exact Nat.le_refl _)] at hown
      go_wp2
      refine bodyPost_end (v := .tuple #[]) (by simp [results, Tryz.results124, go_sem]) rfl ?_
      exact ⟨rfl, hown, hb1, HQ.out⟩
set_option maxHeartbeats 1600000 in
/-- the number that bytes say -/
theorem psays_w (a : Option Addr) (n cap : Nat) (l : List Nat) (w : World) (h : Nums .u8 w a n cap l) (hb : Crc.Bytes l) (hk : n ≤ 8) :
    Calls Tryz.prog 101 #[.slice a n cap] w fun e w' => e = .returned (.int .u64 (un l)) ∧ w = w' := by
  have HL := hid h.len
  have hbd := h.bound
  obtain ⟨c1, c2⟩ := hbd
  go_enter Tryz.func101, Tryz.ntmps101
  go_wp2
  go_loop [3, 8] (fun s i => ∃ k : Nat, k ≤ n ∧ i = .int .i64 k ∧ s = .int .u64 (un (l.take k))) (fun _ i => n - (RowKit.intOf i).toNat)
  case atStart => exact ⟨0, by omega, rfl, rfl⟩
  case round =>
    obtain ⟨k, hk1, rfl, rfl⟩ := hrel
    by_cases hlt : k < n
    · have hkl : k < l.length := by rw [HL.out]; omega
      obtain ⟨b, o, rfl, hc⟩ := h.at hkl
      have hcb : l[k] < 256 := hb _ (List.getElem_mem _)
      have hu := un_lt (l.take k) fun x hx => hb x (List.mem_of_mem_take hx)
      rw [List.length_take, Nat.min_eq_left (by omega)] at hu
      have HS := hid (show un (l.take (k + 1)) = un (l.take k) + 256 ^ k * l[k] by
        rw [List.take_succ_eq_append_getElem hkl, un_snoc, List.length_take, Nat.min_eq_left (by omega)])
      generalize l[k] = x at hc hcb HS
      generalize un (l.take k) = acc at hu HS ⊢
      have HO := hid (or_byte acc x k hcb (by omega) hu).1
      have k8 : 8 * k < 64 := by omega
      have kn : (k : Int) < n := by omega
      clear h hcb hu
      go_wp2
      go_round
      case rel => exact ⟨k + 1, by omega, by go_num, by rw [HS.out, ← HO.out]⟩
      case measure => simp [RowKit.intOf]; omega
    · obtain rfl : k = n := by omega
      have hall : l.take k = l := List.take_of_length_le (by rw [HL.out]; exact Nat.le_refl _)
      rw [hall]
      go_wp2
      go_ret
      exact ⟨rfl, rfl⟩
/-- a table's bytes, up to some -/
def upT (F : Int → Option Ref) (t k : Nat) : List Nat := lays (List.replicate 256 0) 0 ((List.range k).flatMap fun i => refB (tref F (t * 42 + i)))
theorem ups_length (F : Int → Option Ref) (t k : Nat) : ((List.range k).flatMap fun i => refB (tref F (t * 42 + i))).length = 6 * k := by
  induction k with
  | zero => rfl
  | succ k ih => rw [List.range_succ, List.flatMap_append, List.length_append, ih]; simp [refB_length]; omega
theorem upT_succ (F : Int → Option Ref) (t k : Nat) : upT F t (k + 1) = lays (lays (upT F t k) (6 * k) (le 2 (tref F (t * 42 + k)).1.toNat)) (6 * k + 2) (le 4 (tref F (t * 42 + k)).2) := by
  unfold upT
  rw [List.range_succ, List.flatMap_append, lays_append, ups_length, Nat.zero_add]
  simp only [List.flatMap_cons, List.flatMap_nil, List.append_nil]
  unfold refB
  rw [lays_append, le_length]
theorem upT_all (F : Int → Option Ref) (t : Nat) : upT F t 42 = tblk F t := by
  unfold upT tblk Crc.pad
  rw [lays_zero _ _ (by rw [ups_length]; simp), ups_length]
  simp
/-- places that may be written -/
def RefsOk (F : Int → Option Ref) : Prop := ∀ i r, F i = some r → 0 ≤ r.1 ∧ r.1 ≤ 6000 ∧ r.2 < 4294967296
theorem RefsOk.tref {F : Int → Option Ref} (h : RefsOk F) (p : Nat) : 0 ≤ (tref F p).1 ∧ (tref F p).1 ≤ 6000 ∧ (tref F p).2 < 4294967296 := by
  unfold PgP.tref
  cases hF : F (p : Int) with
  | none => exact ⟨by simp, by simp, by simp⟩
  | some r => exact h _ _ hF
set_option maxHeartbeats 3200000 in
theorem table_w (base n X tb tc a : Nat) (vn vp vf : Value) (x : Lay) (t : Nat) (w : World) (h : LW w base n X tb tc a vn vp vf x) (ht : t < 7) (hF : RefsOk x.at_) :
    Calls Tryz.prog 91 #[ptr X, .int .i64 (t : Int)] w fun e w' => (∃ v, e = .returned v ∧ w'.ownsRow w.heap.size 5 1 v 256 (nums .u8 (tblk x.at_ t))) ∧ Below w.heap.size w w' := by
  have HH := hid h
  have HU := hid (upT_succ x.at_ t)
  have hup0 : upT x.at_ t 0 = List.replicate 256 0 := rfl
  have HUA := hid (upT_all x.at_ t)
  have HR := hid (fun p => hF.tref p)
  generalize hup : upT x.at_ t = up at *
  clear h hF hup
  go_enter Tryz.func91, Tryz.ntmps91
  go_wp2_with (at_make; refine wpList_mkn RefW.elU8 rfl _ _ rfl w.heap.size _ _ _ _ 256 rfl rfl rfl rfl (by decide) (by decide) (Nat.le_refl _) ?_; intro w1 hown1 hg1)
  have own1 : OwnN w1 w.heap.size 5 .u8 w.heap.size 256 256 (up 0) := by
    rw [hup0]
    have e : nums .u8 (List.replicate 256 0) = (madeCells #[Value.int .u8 0] 256).toList := (RefW.made_nums .u8 256).symm
    show World.ownsRow _ _ _ _ _ _ _
    rw [e]
    exact hown1
  have b1 : Below w.heap.size w w1 := (Below.refl _ _).grown hg1 (Nat.le_refl _) (fun j hj => by cases hj)
  clear hown1 hg1
  go_loopw [10] (fun i wr => ∃ k : Nat, k ≤ 42 ∧ i = .int .i64 k ∧ OwnN wr w.heap.size 5 .u8 w.heap.size 256 256 (up k) ∧ Below w.heap.size w wr) (fun i _ => 42 - (RowKit.intOf i).toNat)
  case atStart => exact ⟨0, by omega, rfl, own1, b1⟩
  case round =>
    clear own1 b1
    obtain ⟨k, hk, rfl, own, hb⟩ := hrel
    by_cases hlt : k < 42
    · have hLr := HH.out.below hb
      obtain ⟨ka, hka⟩ := hLr.at_
      have hfi : Fits ((t * 42 + k : Nat) : Int) := by unfold Fits; omega
      have lk := hka.look hfi
      have c1 := hLr.c.2.1
      obtain ⟨r1, r2, r3⟩ := HR.out (t * 42 + k)
      have HUS := hid (HU.out k)
      have e0 : (x.at_ ((t * 42 + k : Nat) : Int)).getD (0, 0) = tref x.at_ (t * 42 + k) := rfl
      rw [e0] at lk
      generalize tref x.at_ (t * 42 + k) = r at *
      obtain ⟨ra, rs⟩ := r
      simp only at r1 r2 r3 HUS
      obtain ⟨ad, had⟩ := Int.eq_ofNat_of_zero_le r1
      subst had
      have hz := hb.size
      have HB := hid hb
      have HO := hid own
      have hw1 : IntKind.u64.wrap (ad : Int) = ad := by rw [IntKind.wrap_u64]; omega
      have hw2 : IntKind.u64.wrap (rs : Int) = rs := by rw [IntKind.wrap_u64]; omega
      rw [show ((t * 42 + k : Nat) : Int) = (t : Int) * 42 + (k : Int) by omega] at lk
      clear hfi
      have HLK := hid hLr.lt
      clear hLr hka hb own e0
      go_wp2_with fail
      have b5 : Below w.heap.size w (wr.alloc (.cells #[.int .i64 (ad : Int), .int .u32 (rs : Int)] 111)) := HB.out.alloc hz _
      obtain ⟨t0, t1⟩ := new2 wr (.int .i64 (ad : Int)) (.int .u32 (rs : Int)) 111
      have hgr := HO.out.lt.2
      have own5 := HO.out.alloc (.cells #[.int .i64 (ad : Int), .int .u32 (rs : Int)] 111)
      generalize wr.alloc (.cells #[.int .i64 (ad : Int), .int .u32 (rs : Int)] 111) = w5 at *
      obtain ⟨M, hM⟩ : ∃ M, M = 256 - 6 * k := ⟨_, rfl⟩
      rw [← hM]
      have HM := hid hM
      have hM1 : 10 ≤ M := by omega
      have hM2 : M ≤ 256 := by omega
      have hMI : (2 : Int) ≤ (M : Int) := by omega
      have hMne : ¬ M = 2 := by omega
      clear hM lk c1
      have t0d : w5.drew.cell? ⟨wr.heap.size, 0, none⟩ = some (.int .i64 (ad : Int)) := t0
      have t1d : w5.drew.cell? ⟨wr.heap.size, 1, none⟩ = some (.int .u32 (rs : Int)) := t1
      go_region_held3 (fun w' => w'.cell? ⟨wr.heap.size, 0, none⟩ = some (.int .i64 (ad : Int)) ∧ w'.cell? ⟨wr.heap.size, 1, none⟩ = some (.int .u32 (rs : Int))) (first | exact ⟨t0d, t1d⟩ | exact ⟨t0, t1⟩ | exact ⟨u0, u1⟩ | go_keep)
        ((go_at_call 124; refine (play_w w.heap.size _ 256 256 _ (6 * k) 2 M ad _ (World.ownsRow.drew own5) (Nat.le_refl _) (by omega) (by decide) (by omega) (by omega) (by omega) (by decide)).mono ?_; rintro e w6 ⟨rfl, own6, b6, o6⟩; have u0 : w6.cell? ⟨wr.heap.size, 0, none⟩ = some (.int .i64 (ad : Int)) := (World.cell?_of_block (o6 wr.heap.size (by omega))).trans t0; have u1 : w6.cell? ⟨wr.heap.size, 1, none⟩ = some (.int .u32 (rs : Int)) := (World.cell?_of_block (o6 wr.heap.size (by omega))).trans t1))
      have B6 := b5.drew.trans b6
      have u0d : w6.drew.cell? ⟨wr.heap.size, 0, none⟩ = some (.int .i64 (ad : Int)) := u0
      have u1d : w6.drew.cell? ⟨wr.heap.size, 1, none⟩ = some (.int .u32 (rs : Int)) := u1
      clear t0d t1d t0 t1 o6 b5 own5
      go_wp2_with fail
      go_region_held3 (fun w' => w'.cell? ⟨wr.heap.size, 0, none⟩ = some (.int .i64 (ad : Int)) ∧ w'.cell? ⟨wr.heap.size, 1, none⟩ = some (.int .u32 (rs : Int))) (first | exact ⟨u0d, u1d⟩ | exact ⟨u0, u1⟩ | exact ⟨v0, v1⟩ | go_keep)
        ((go_at_call 124; refine (play_w w.heap.size _ 256 256 _ (6 * k + 2) 4 (M - 2) rs _ (World.ownsRow.drew own6) (Nat.le_refl _) (by omega) (by decide) (by omega) (by omega) (by omega) (by decide)).mono ?_; rintro e w7 ⟨rfl, own7, b7, o7⟩; have v0 : w7.cell? ⟨wr.heap.size, 0, none⟩ = some (.int .i64 (ad : Int)) := (World.cell?_of_block (o7 wr.heap.size (by omega))).trans u0; have v1 : w7.cell? ⟨wr.heap.size, 1, none⟩ = some (.int .u32 (rs : Int)) := (World.cell?_of_block (o7 wr.heap.size (by omega))).trans u1))
      have B7 := hid (B6.drew.trans b7)
      have HO7 := hid own7
      clear own7 own6 v0 v1 u0 u1 u0d u1d o7 b7 B6 b6
      go_wp2
      go_roundw
      case rel => exact ⟨k + 1, by omega, by go_num, by rw [HUS.out]; exact HO7.out, B7.out⟩
      case measure => simp [RowKit.intOf]; omega
    · obtain rfl : k = 42 := by omega
      rw [HUA.out] at own
      have hz := hb.size
      have HB := hid hb
      have HO := hid own
      clear own hb
      go_wp2
      go_ret
      exact ⟨⟨_, rfl, HO.out⟩, HB.out⟩
end Go.Proofs.YtbjfgdahfpfgdaaGreatDoor.PgW

namespace Go.Proofs.YtbjfgdahfpfgdaaGreatDoor.PgP
open Go.Proofs.YtbjfgdahfpfgdaaGreatDoor.RootP Go.Proofs.YtbjfgdahfpfgdaaGreatDoor.MapsW
set_option linter.unusedVariables false
set_option maxRecDepth 100000

/-- a place of a table's bytes -/
def refT (l : List Nat) (i : Nat) : Ref := (((un ((l.drop (6 * i)).take 2) : Nat) : Int), un ((l.drop (6 * i + 2)).take 4))
/-- a place read -/
def readI (t : Nat) (l : List Nat) (F : Int → Option Ref) (i : Nat) : Int → Option Ref :=
  if 0 < (refT l i).1 ∧ t * 42 + i < 256 then upd F ((t * 42 + i : Nat) : Int) (some (refT l i)) else F
/-- a table read, up to k places -/
def readT (F : Int → Option Ref) (t : Nat) (l : List Nat) (k : Nat) : Int → Option Ref := (List.range k).foldl (readI t l) F
theorem readT_succ (F : Int → Option Ref) (t : Nat) (l : List Nat) (k : Nat) : readT F t l (k + 1) = readI t l (readT F t l k) k := by
  unfold readT
  rw [List.range_succ, List.foldl_append]
  rfl
theorem flat_length {α : Type} (f : α → List Nat) (h : ∀ a, (f a).length = 6) : ∀ l : List α, (l.flatMap f).length = 6 * l.length
  | [] => rfl
  | a :: l => by rw [List.flatMap_cons, List.length_append, h, flat_length f h l, List.length_cons]; omega
theorem range_cut (n i : Nat) (h : i < n) : ∃ r, List.range n = List.range i ++ i :: r := by
  refine ⟨(List.range n).drop (i + 1), ?_⟩
  have h1 := (List.take_append_drop i (List.range n)).symm
  rw [List.drop_eq_getElem_cons (by simpa using h), List.take_range, List.getElem_range, Nat.min_eq_left (by omega)] at h1
  exact h1
theorem refT_tblk {G : Int → Option Ref} {t i : Nat} (hi : i < 42) (h : 0 ≤ (tref G (t * 42 + i)).1 ∧ (tref G (t * 42 + i)).1 ≤ 6000 ∧ (tref G (t * 42 + i)).2 < 4294967296) : refT (tblk G t) i = tref G (t * 42 + i) := by
  obtain ⟨r, hr⟩ := range_cut 42 i hi
  have e : ∃ C, tblk G t = ((List.range i).flatMap fun i => refB (tref G (t * 42 + i))) ++ (refB (tref G (t * 42 + i)) ++ C) := by
    unfold tblk Crc.pad
    rw [hr, List.flatMap_append, List.flatMap_cons]
    exact ⟨_, by rw [List.append_assoc, List.append_assoc]⟩
  obtain ⟨C, hC⟩ := e
  have hl : ((List.range i).flatMap fun i => refB (tref G (t * 42 + i))).length = 6 * i := by
    rw [flat_length _ (fun a => refB_length _), List.length_range]
  unfold refT
  rw [hC]
  have e1 : (((List.range i).flatMap fun i => refB (tref G (t * 42 + i))) ++ (refB (tref G (t * 42 + i)) ++ C)).drop (6 * i) = refB (tref G (t * 42 + i)) ++ C := List.drop_left' hl
  have e2 : (((List.range i).flatMap fun i => refB (tref G (t * 42 + i))) ++ (refB (tref G (t * 42 + i)) ++ C)).drop (6 * i + 2) = (refB (tref G (t * 42 + i)) ++ C).drop 2 := by
    rw [← List.drop_drop, e1]
  rw [e1, e2]
  generalize tref G (t * 42 + i) = x at *
  obtain ⟨a, s⟩ := x
  obtain ⟨h1, h2, h3⟩ := h
  obtain ⟨n, rfl⟩ := Int.eq_ofNat_of_zero_le h1
  unfold refB
  simp only [Int.toNat_natCast] at *
  have l2 : (le 2 n).length = 2 := le_length _ _
  have l4 : (le 4 s).length = 4 := le_length _ _
  rw [List.append_assoc, List.take_left' l2, List.drop_left' l2, List.take_left' l4, un_le 2 n (by omega), un_le 4 s (by omega)]
theorem refT_bound (l : List Nat) (hl : Crc.Bytes l) (i : Nat) : 0 ≤ (refT l i).1 ∧ (refT l i).1 < 65536 ∧ (refT l i).2 < 4294967296 := by
  have h1 := un_lt ((l.drop (6 * i)).take 2) fun x hx => hl x (List.mem_of_mem_drop (List.mem_of_mem_take hx))
  have h2 := un_lt ((l.drop (6 * i + 2)).take 4) fun x hx => hl x (List.mem_of_mem_drop (List.mem_of_mem_take hx))
  have h3 : 256 ^ ((l.drop (6 * i)).take 2).length ≤ 256 ^ 2 := Nat.pow_le_pow_right (by decide) (by rw [List.length_take]; omega)
  have h4 : 256 ^ ((l.drop (6 * i + 2)).take 4).length ≤ 256 ^ 4 := Nat.pow_le_pow_right (by decide) (by rw [List.length_take]; omega)
  unfold refT
  refine ⟨by simp only; omega, by simp only; omega, by simp only; omega⟩
end Go.Proofs.YtbjfgdahfpfgdaaGreatDoor.PgP

namespace Go.Proofs.YtbjfgdahfpfgdaaGreatDoor.PgW
open Go Go.RowKit Go.Maps Go.Proofs.YtbjfgdahfpfgdaaGreatDoor.Mem Go.Proofs.YtbjfgdahfpfgdaaGreatDoor.MapsW Go.Proofs.YtbjfgdahfpfgdaaGreatDoor.SeeW Go.Proofs.YtbjfgdahfpfgdaaGreatDoor.DevG Go.Proofs.YtbjfgdahfpfgdaaGreatDoor.PairG Go.Proofs.YtbjfgdahfpfgdaaGreatDoor.RefsW Go.Proofs.YtbjfgdahfpfgdaaGreatDoor.PgP Go.Proofs.YtbjfgdahfpfgdaaGreatDoor.RootP Go.Proofs.YtbjfgdahfpfgdaaGreatDoor.RootW
set_option linter.unusedVariables false
set_option maxRecDepth 100000

/-- what is written into the places leaves all else -/
theorem SAt.putA {w w' : World} {lo n k' : Nat} {m : Mp} {D : Dv} {I : Si} {S : St} {F : Int → Option Ref} (k : SAt w lo n m D I S) (hr : RefMap w' I.a (n + 1) F k') (hg : w.grownBy w' (some I.a)) : SAt w' lo (n + 1) m D I { S with at_ := F } := by
  obtain ⟨n1, n2, n3, n4, n5⟩ := k.ne
  obtain ⟨k2, h2⟩ := k.now
  have ht : Turn [I.a] w w' := Turn.of_grown hg (by simp)
  have hno : NoCells w I.a := nocells k.amap
  have htx := k.tx
  refine ⟨(k.pr.away ht (fun x hx => ?_) (fun x hx => .inl (by rw [List.mem_singleton.1 hx]; exact hno))).mono (by omega) (Nat.le_refl _), ht.cells k.cells (by simpa using n2), refs_turn k.refs ht fun b o e hm => ?_, refs_turn k.tabs ht fun b o e hm => ?_, ⟨k', hr⟩, ⟨k2, (now_turn0 h2 ht (by simpa using Ne.symm k.ao) (fun x hx => .inl (by rw [List.mem_singleton.1 hx]; exact hno))).mono (by omega) (Nat.le_refl _)⟩, k.ao, k.sx, k.ax, k.ox, fun b off e => ⟨Nat.lt_of_lt_of_le (k.rx b off e).1 ht.size, (k.rx b off e).2⟩, k.tx, k.slo⟩
  · rw [List.mem_singleton.1 hx]
    intro hm
    rcases List.mem_cons.1 hm with e | hm
    · exact n4 e.symm
    · exact k.ax hm
  · have h2 := (k.rx b o e).2
    rw [List.mem_singleton.1 hm] at h2
    simp at h2
  · cases e
    rw [List.mem_singleton.1 hm] at htx
    simp at htx
theorem nums_takeN {k : IntKind} {w : World} {a : Option Addr} {n cap : Nat} {l : List Nat} (h : Nums k w a n cap l) (j : Nat) (hj : j ≤ n) : Nums k w a j cap (l.take j) := by
  have hl := h.len
  obtain ⟨h1, h2, h3, h4, h5⟩ := h
  refine ⟨by rw [nums_length, List.length_take]; omega, by omega, h3, h4, fun i u hi => ?_⟩
  have e : nums k (l.take j) = (nums k l).take j := by simp [nums, List.map_take]
  rw [e, List.getElem?_take] at hi
  split at hi
  · exact h5 _ _ hi
  · cases hi
set_option maxHeartbeats 3200000 in
theorem readT_w (lo n : Nat) (m : Mp) (D : Dv) (I : Si) (S : St) (t g cap : Nat) (l : List Nat) (w : World) (k : SAt w lo n m D I S) (hl : Nums .u8 w (some ⟨g, 0, none⟩) 256 cap l) (hb : Crc.Bytes l) (ht : t < 7) (hg : g ∉ I.own m) (hn : n < 800000) :
    Calls Tryz.prog 57 #[ptr I.s, .int .i64 (t : Int), .slice (some ⟨g, 0, none⟩) 256 cap] w fun e w' => e = .returned (.tuple #[]) ∧ SAt w' lo (n + 42) m D I { S with at_ := readT S.at_ t l 42 } ∧ Turn [I.a] w w' := by
  have hbd := hl.bound
  have HRB := hid (fun i => refT_bound l hb i)
  have HSC := hid (readT_succ S.at_ t l)
  have h0 : readT S.at_ t l 0 = S.at_ := rfl
  have HK := hid k
  have HL := hid hl
  have hga : g ≠ I.a := fun e => hg (by rw [e]; simp)
  clear k hl hg
  go_enter Tryz.func57, Tryz.ntmps57
  go_wp2_with fail
  go_loopw [10] (fun iv wr => ∃ i : Nat, i ≤ 42 ∧ iv = .int .i64 i ∧ SAt wr lo (n + i) m D I { S with at_ := readT S.at_ t l i } ∧ Turn [I.a] w wr) (fun iv _ => 42 - (RowKit.intOf iv).toNat)
  case atStart => exact ⟨0, by omega, rfl, by rw [h0]; exact HK.out, Turn.refl _ _⟩
  case round =>
    obtain ⟨i, hi, rfl, hk, hT⟩ := hrel
    by_cases hlt : i < 42
    · have hlI : (i : Int) < 42 := by omega
      have hl2 : Nums .u8 wr (some ⟨g, 0, none⟩) 256 cap l := nums_turn HL.out hT fun b o e hm => by cases e; exact hga (List.mem_singleton.1 hm)
      have hD := nums_drop hl2 (6 * i) (by omega)
      rw [Nat.zero_add] at hD
      have hD1 := nums_takeN hD 2 (by omega)
      have hD2 := nums_takeN (nums_drop hD 2 (by omega)) 4 (by omega)
      rw [List.drop_drop] at hD2
      obtain ⟨r1, r2, r3⟩ := HRB.out i
      have b1 : Crc.Bytes ((l.drop (6 * i)).take 2) := fun x hx => hb x (List.mem_of_mem_drop (List.mem_of_mem_take hx))
      have b2 : Crc.Bytes ((l.drop (6 * i + 2)).take 4) := fun x hx => hb x (List.mem_of_mem_drop (List.mem_of_mem_take hx))
      have s1 : ∀ w', Below wr.heap.size wr w' → _ := fun w' hb => psays_w _ _ _ _ w' (hD1.below hb) b1 (by decide)
      have s2 : ∀ w', Below wr.heap.size wr w' → _ := fun w' hb => psays_w _ _ _ _ w' (hD2.below hb) b2 (by decide)
      have hx : refT l i = (((un ((l.drop (6 * i)).take 2) : Nat) : Int), un ((l.drop (6 * i + 2)).take 4)) := rfl
      have hs := HSC.out i
      unfold readI at hs
      rw [hx] at hs r2 r3
      clear r1 hx hD hD1 hD2 b1 b2 hl2
      generalize un ((l.drop (6 * i)).take 2) = x1 at *
      generalize un ((l.drop (6 * i + 2)).take 4) = x2 at *
      have HS := hid hs
      have HK2 := hid hk
      have HT := hid hT
      clear hs hk hT
      have w1 : IntKind.i64.wrap (x1 : Int) = x1 := by rw [IntKind.wrap_i64]; omega
      have w3 : IntKind.u32.wrap (x2 : Int) = x2 := by rw [IntKind.wrap_u32]; omega
      clear h0 r2 r3 HRB
      go_upto_region 4 with fail
      rw [show 6 * i + 6 - 6 * i = 6 by omega]
      obtain ⟨M, hM⟩ : ∃ M, M = cap - 6 * i := ⟨_, rfl⟩
      have hM1 : 6 ≤ M := by omega
      have hM2 : (2 : Int) ≤ (M : Int) := by omega
      have hMne : ¬ M = 2 := by omega
      rw [← hM] at s1 s2 ⊢
      have hsay : ∀ w' (o nn c : Nat), Below wr.heap.size wr w' → ((o = 6 * i ∧ nn = 2 ∧ c = M) ∨ (o = 6 * i + 2 ∧ nn = 4 ∧ c = M - 2)) → Calls Tryz.prog 101 #[.slice (some ⟨g, o, none⟩) nn c] w' fun e w'' => e = .returned (.int .u64 ((if nn = 2 then x1 else x2 : Nat) : Int)) ∧ w' = w'' := by
        rintro w' o nn c hb (⟨rfl, rfl, rfl⟩ | ⟨rfl, rfl, rfl⟩)
        · exact s1 w' hb
        · exact s2 w' hb
      clear s1 s2
      have HMM := hid hM
      clear hM
      go_cut [8] from 20 to 28 (fun v8 wx => ∃ r, v8 = ptr r ∧ wr.heap.size ≤ r ∧ wx.heap[r]? = some (.cells #[.int .i64 (x1 : Int), .int .u32 (x2 : Int)] 111) ∧ Below wr.heap.size wr wx)
      case first =>
        go_region_law (go_simp; go_at_call 101; refine (hsay _ _ _ _ (by first | exact Below.drew (Below.refl _ _) | exact Below.drew (Below.alloc (Below.refl _ _) (Nat.le_refl _) _) | exact Below.alloc (Below.drew (Below.refl _ _)) (Nat.le_refl _) _) (by first | exact .inl ⟨rfl, rfl, rfl⟩ | exact .inr ⟨rfl, rfl, rfl⟩)).mono ?_; rintro e w5 ⟨he, rfl⟩; simp only [if_true, show ¬ (4 : Nat) = 2 by decide, if_false] at he; subst he)
        all_goals
          go_wp2_with fail
          go_meet
          exact ⟨wr.heap.size, rfl, Nat.le_refl _, heap_alloc_new _ _, (Below.refl _ _).drew.alloc (Nat.le_refl _) _⟩
      case rest =>
        obtain ⟨r, rfl, hr, hcell, b6⟩ := hcut
        generalize wc = w6 at *
        have k6 := HK2.out.below b6
        have T6 := HT.out.then (Turn.of_below b6)
        have r0 : w6.cell? ⟨r, 0, none⟩ = some (.int .i64 (x1 : Int)) := by simp [World.cell?, hcell]
        have r1 : w6.cell? ⟨r, 1, none⟩ = some (.int .u32 (x2 : Int)) := by simp [World.cell?, hcell]
        have hp : Fits ((t * 42 + i : Nat) : Int) := by unfold Fits; omega
        have hisp := is_w ((t * 42 + i : Nat) : Int) w6
        have f1 : IntKind.i64.wrap ((t : Int) * 42 + (i : Int)) = ((t * 42 + i : Nat) : Int) := by rw [IntKind.wrap_i64]; omega
        have f0 : IntKind.i64.wrap ((t : Int) * 42) = (t : Int) * 42 := by rw [IntKind.wrap_i64]; omega
        have hpe : ((t * 42 + i : Nat) : Int) = (t : Int) * 42 + (i : Int) := by omega
        have HK6 := hid k6
        have HT6 := hid T6
        clear hsay hcell
        by_cases hc : 0 < x1 ∧ t * 42 + i < 256
        · have hci : 0 < (((x1 : Int), x2) : Ref).1 ∧ t * 42 + i < 256 := ⟨by simp only; omega, hc.2⟩
          have hs := HS.out
          rw [if_pos hci] at hs
          have h1 : (0 : Int) < (x1 : Int) := by omega
          have h1d : decide ((0 : Int) < (x1 : Int)) = true := decide_eq_true h1
          have hiv : isP ((t * 42 + i : Nat) : Int) = true := by unfold isP; rw [decide_eq_true (by omega), decide_eq_true (by omega)]; rfl
          rw [hiv] at hisp
          have k6d := k6.below (Below.refl _ _).drew
          obtain ⟨ka, hka⟩ := k6d.at_
          obtain ⟨w7, hrun, hr7, hg7⟩ := hka.store (by omega) hp (((x1 : Int), x2) : Ref)
          have hrun' : (Instr.mapUpdate 90 (.map (some I.a)) (.int .i64 ((t : Int) * 42 + (i : Int))) (.agg #[.int .i64 (x1 : Int), .int .u32 (x2 : Int)])).run Tryz.prog w6.drew = .ok () w7 := by rw [← hpe]; exact hrun
          have H7 := hid (k6d.putA hr7 hg7)
          have HT7 := hid ((T6.then (Turn.of_below (Below.refl _ _).drew)).then (Turn.of_grown hg7 (by simp)))
          have c5 := k6.c.2.2.2.2.2.1
          have c5d : w6.drew.cell? ⟨I.s, 5, none⟩ = some (.map (some I.a)) := c5
          have r0d : w6.drew.cell? ⟨r, 0, none⟩ = some (.int .i64 (x1 : Int)) := r0
          have r1d : w6.drew.cell? ⟨r, 1, none⟩ = some (.int .u32 (x2 : Int)) := r1
          have HSS := hid hs
          clear hs hrun hr7 hg7 hka k6d k6 T6 hc hci hiv
          rw [hpe] at hisp f1
          clear hpe hp
          go_wp2_with fail
          refine hisp.mono ?_
          rintro e w8 ⟨rfl, hw8⟩
          subst hw8
          go_upto_region 7 with fail
          go_region
          all_goals
            go_wp2_with fail
            go_roundw
            case rel => exact ⟨i + 1, by omega, by go_num, by rw [HSS.out]; exact H7.out, HT7.out⟩
            case measure => simp [RowKit.intOf]; omega
        · have hci : ¬ (0 < (((x1 : Int), x2) : Ref).1 ∧ t * 42 + i < 256) := fun h => hc ⟨by have := h.1; simp only at this; omega, h.2⟩
          have hs := HS.out
          rw [if_neg hci] at hs
          have HSS := hid hs
          have H7 := hid (k6.mono (n' := n + (i + 1)) (by omega))
          clear hs k6 T6 hci
          rw [hpe] at hisp f1
          by_cases h1 : x1 = 0
          · subst h1
            clear hpe hp hisp
            go_wp2_with fail
            go_roundw
            case rel => exact ⟨i + 1, by omega, by go_num, by rw [HSS.out]; exact H7.out, HT6.out⟩
            case measure => simp [RowKit.intOf]; omega
          · have h1i : (0 : Int) < (x1 : Int) := by omega
            have h1d : decide ((0 : Int) < (x1 : Int)) = true := decide_eq_true h1i
            have hiv : isP ((t : Int) * 42 + (i : Int)) = false := by unfold isP; rw [decide_eq_true (by omega), decide_eq_false (by omega)]; rfl
            rw [hiv] at hisp
            clear hpe hp hc hiv
            go_wp2_with fail
            refine hisp.mono ?_
            rintro e w8 ⟨rfl, hw8⟩
            subst hw8
            go_wp2_with fail
            go_roundw
            case rel => exact ⟨i + 1, by omega, by go_num, by rw [HSS.out]; exact H7.out, HT6.out⟩
            case measure => simp [RowKit.intOf]; omega
    · obtain rfl : i = 42 := by omega
      have HK2 := hid hk
      have HT := hid hT
      clear hk hT
      go_wp2
      refine bodyPost_end (v := .tuple #[]) (by simp [results, Tryz.results57, go_sem]) rfl ?_
      exact ⟨rfl, HK2.out, HT.out⟩
end Go.Proofs.YtbjfgdahfpfgdaaGreatDoor.PgW

namespace Go.Proofs.YtbjfgdahfpfgdaaGreatDoor.PgP
open Go.Proofs.YtbjfgdahfpfgdaaGreatDoor.RootP Go.Proofs.YtbjfgdahfpfgdaaGreatDoor.MapsW
set_option linter.unusedVariables false
set_option maxRecDepth 100000

abbrev RefOk (r : Ref) : Prop := 0 ≤ r.1 ∧ r.1 ≤ 6000 ∧ r.2 < 4294967296
theorem readT_get {G F : Int → Option Ref} {t : Nat} (hG : ∀ p : Nat, RefOk (tref G p)) : ∀ (k : Nat), k ≤ 42 → ∀ i : Int, readT F t (tblk G t) k i = if (t * 42 : Int) ≤ i ∧ i < (t * 42 + k : Int) ∧ 0 < (tref G i.toNat).1 ∧ i < 256 then some (tref G i.toNat) else F i
  | 0, _, i => by
    rw [if_neg (by omega)]
    rfl
  | k + 1, hk, i => by
    rw [readT_succ]
    unfold readI
    rw [refT_tblk (by omega) (hG _)]
    have ih := readT_get (F := F) (t := t) hG k (by omega) i
    by_cases hc : 0 < (tref G (t * 42 + k)).1 ∧ t * 42 + k < 256
    · rw [if_pos hc]
      unfold upd
      by_cases hi : i = ((t * 42 + k : Nat) : Int)
      · rw [if_pos hi]
        subst hi
        rw [Int.toNat_natCast, if_pos ⟨by omega, by omega, hc.1, by omega⟩]
      · rw [if_neg hi, ih]
        by_cases h2 : (t * 42 : Int) ≤ i ∧ i < (t * 42 + k : Int) ∧ 0 < (tref G i.toNat).1 ∧ i < 256
        · rw [if_pos h2, if_pos ⟨h2.1, by omega, h2.2.2⟩]
        · rw [if_neg h2, if_neg fun h3 => h2 ⟨h3.1, by omega, h3.2.2⟩]
    · rw [if_neg hc, ih]
      by_cases h2 : (t * 42 : Int) ≤ i ∧ i < (t * 42 + k : Int) ∧ 0 < (tref G i.toNat).1 ∧ i < 256
      · rw [if_pos h2, if_pos ⟨h2.1, by omega, h2.2.2⟩]
      · rw [if_neg h2, if_neg fun h3 => ?_]
        by_cases hi : i = ((t * 42 + k : Nat) : Int)
        · subst hi
          rw [Int.toNat_natCast] at h3
          exact hc ⟨h3.2.2.1, by omega⟩
        · exact h2 ⟨h3.1, by omega, h3.2.2⟩
/-- the places that the tables below t have -/
def upto (G : Int → Option Ref) (t : Nat) : Int → Option Ref := fun i => if 0 ≤ i ∧ i < (t * 42 : Int) then G i else none
theorem upto_zero (G : Int → Option Ref) : upto G 0 = fun _ => none := by
  funext i
  unfold upto
  rw [if_neg (by omega)]
theorem upto_all {G : Int → Option Ref} (hd : ∀ i, (G i).isSome = true → 0 ≤ i ∧ i < 256) : upto G 7 = G := by
  funext i
  unfold upto
  by_cases h : 0 ≤ i ∧ i < ((7 : Nat) * 42 : Int)
  · rw [if_pos h]
  · rw [if_neg h]
    cases hG : G i with
    | none => rfl
    | some r => have := hd i (by rw [hG]; rfl); omega
theorem upto_read {G : Int → Option Ref} {t : Nat} (hG : ∀ p : Nat, RefOk (tref G p)) (hp : ∀ i r, G i = some r → 0 < r.1) (hd : ∀ i, (G i).isSome = true → 0 ≤ i ∧ i < 256) : readT (upto G t) t (tblk G t) 42 = upto G (t + 1) := by
  funext i
  rw [readT_get hG 42 (Nat.le_refl _) i]
  unfold upto
  by_cases h1 : 0 ≤ i ∧ i < (t * 42 : Int)
  · rw [if_neg (by omega), if_pos h1, if_pos (by omega)]
  · by_cases h2 : (t * 42 : Int) ≤ i ∧ i < (t * 42 + (42 : Nat) : Int)
    · have e : ((i.toNat : Nat) : Int) = i := by omega
      rw [if_neg h1, if_pos (show 0 ≤ i ∧ i < (((t + 1 : Nat) : Int) * 42) by omega)]
      cases hGi : G i with
      | none =>
        have : tref G i.toNat = (0, 0) := by unfold tref; rw [e, hGi]; rfl
        rw [if_neg (by rw [this]; simp)]
      | some r =>
        have h3 : tref G i.toNat = r := by unfold tref; rw [e, hGi]; rfl
        have h4 := hd i (by rw [hGi]; rfl)
        have h5 := hp i r hGi
        rw [h3, if_pos ⟨h2.1, h2.2, h5, h4.2⟩]
    · rw [if_neg (fun h => h2 ⟨h.1, h.2.1⟩), if_neg h1, if_neg (by omega)]
theorem upto_skip {G : Int → Option Ref} {t : Nat} (h : has G t = false) : upto G (t + 1) = upto G t := by
  funext i
  unfold upto
  by_cases h1 : 0 ≤ i ∧ i < (t * 42 : Int)
  · rw [if_pos h1, if_pos (by omega)]
  · rw [if_neg h1]
    by_cases h2 : 0 ≤ i ∧ i < (((t + 1 : Nat) : Int) * 42)
    · rw [if_pos h2]
      cases hG : G i with
      | none => rfl
      | some r =>
        have : has G t = true := has_iff.2 ⟨i.toNat, by rw [show ((i.toNat : Nat) : Int) = i by omega, hG]; rfl, by omega⟩
        rw [h] at this
        cases this
    · rw [if_neg h2]
end Go.Proofs.YtbjfgdahfpfgdaaGreatDoor.PgP

namespace Go.Proofs.YtbjfgdahfpfgdaaGreatDoor.PgW
open Go Go.RowKit Go.Maps Go.Proofs.YtbjfgdahfpfgdaaGreatDoor.Mem Go.Proofs.YtbjfgdahfpfgdaaGreatDoor.MapsW Go.Proofs.YtbjfgdahfpfgdaaGreatDoor.SeeW Go.Proofs.YtbjfgdahfpfgdaaGreatDoor.DevG Go.Proofs.YtbjfgdahfpfgdaaGreatDoor.PairG Go.Proofs.YtbjfgdahfpfgdaaGreatDoor.RefsW Go.Proofs.YtbjfgdahfpfgdaaGreatDoor.PgP Go.Proofs.YtbjfgdahfpfgdaaGreatDoor.RootP Go.Proofs.YtbjfgdahfpfgdaaGreatDoor.RootW
set_option linter.unusedVariables false
set_option maxRecDepth 100000

/-- a store without a page -/
abbrev St0 : St := ⟨0, [], List.replicate 7 (0, 0), fun _ => none, fun _ => none⟩
/-- a new store -/
theorem SAt.fresh0 {w : World} {lo d n p H c tb : Nat} {m : Mp} {D : Dv} (pr : PR w lo d n m D p H c) (ht : OwnRefs w tb (.slice (some ⟨tb, 0, none⟩) 7 7) 7 (List.replicate 7 (0, 0))) (hlo : lo ≤ w.heap.size) (htb : tb ∉ p :: own d m) :
    SAt (((w.alloc (.map #[] 0)).alloc (.map #[] 0)).alloc (.cells (scells d p 0 none 0 0 tb 7 w.heap.size (w.heap.size + 1) 0) 93)) lo n m D ⟨d, p, H, c, w.heap.size + 2, w.heap.size, w.heap.size + 1, none, 0, tb, 7, 0⟩ St0 := by
  have b1 := (Below.refl w.heap.size w).alloc (Nat.le_refl _) (.map #[] 0)
  have b2 := b1.alloc (by simp) (.map #[] 0)
  have b3 := b2.alloc (by simp; omega) (.cells (scells d p 0 none 0 0 tb 7 w.heap.size (w.heap.size + 1) 0) 93)
  have hc : (((w.alloc (.map #[] 0)).alloc (.map #[] 0)).alloc (.cells (scells d p 0 none 0 0 tb 7 w.heap.size (w.heap.size + 1) 0) 93)).heap[w.heap.size + 2]? = some (.cells (scells d p 0 none 0 0 tb 7 w.heap.size (w.heap.size + 1) 0) 93) := alloc_at (by simp) _
  have hown : ∀ x ∈ own d m, x < w.heap.size := fun x hx => by
    rcases List.mem_cons.1 hx with rfl | hx
    · exact pr.dev.dlt
    · obtain ⟨es, ck, hb⟩ := pr.dev.maps x hx
      exact (Array.getElem?_eq_some_iff.1 hb).1
  have htw := (own_tab ht).2
  have hpl := pr.plt
  refine ⟨pr.below b3, hc, ?_, (own_refs ht).below b3, ⟨0, ?_⟩, ⟨0, ?_⟩, by simp, fun hm => (by have := hown _ hm; simp only at this; omega), fun hm => (by have := hown _ hm; simp only at this; omega), fun hm => (by have := hown _ hm; simp only at this; omega), fun b off e => (by cases e), ?_, ⟨by simp only; omega, by simp only; omega, by simp only; omega⟩⟩
  · exact Refs.nil _
  · have h1 := RefMap.made w
    exact ((h1.below (((Below.refl _ (w.alloc (.map #[] 0))).alloc (Nat.le_refl _) (.map #[] 0)).alloc (by simp) (.cells (scells d p 0 none 0 0 tb 7 w.heap.size (w.heap.size + 1) 0) 93)))).mono (Nat.zero_le _)
  · have h1 := NowMap.made (w.alloc (.map #[] 0)) lo
    rw [show (w.alloc (.map #[] 0)).heap.size = w.heap.size + 1 by simp] at h1
    exact (h1.below ((Below.refl _ _).alloc (Nat.le_refl _) (.cells (scells d p 0 none 0 0 tb 7 w.heap.size (w.heap.size + 1) 0) 93))).mono (Nat.zero_le _) (Nat.le_refl _)
  · intro hm
    rcases List.mem_cons.1 hm with h | hm
    · simp only at h; omega
    · rcases List.mem_cons.1 hm with h | hm
      · exact htb (by rw [show tb = p from h]; simp)
      · rcases List.mem_cons.1 hm with h | hm
        · simp only at h; omega
        · rcases List.mem_cons.1 hm with h | hm
          · simp only at h; omega
          · exact htb (by simp only [List.mem_cons]; exact .inr (List.mem_cons.1 hm))
set_option maxHeartbeats 3200000 in
/-- a device without a root -/
theorem open_none (bs : List Addr) (lo d n : Nat) (m : Mp) (D : Dv) (w : World) (k : At w lo d n m D) (hB : Ev w lo bs six) (h1 : 300 ≤ D.blocks) (h2 : D.blocks ≤ 6000) (hlo : lo ≤ w.heap.size) (hu : D.down = false) (hbt : ∀ i l, D.read i = some l → Crc.Bytes l)
    (hb : bestOf D (GeoW.half D.blocks) = ⟨0, []⟩) :
    Calls Tryz.prog 18 #[ptr d] w fun e w' => ∃ I, e = .returned (.tuple #[ptr I.s, .nilIface]) ∧ SAt w' lo n m D I St0 ∧ I.d = d ∧ I.H = GeoW.half D.blocks ∧ I.z = 0 ∧ I.c = 0 ∧ (∀ x ∈ I.own m, x ∈ own d m ∨ w.heap.size ≤ x) ∧ (w.heap.size ≤ I.tb ∧ I.ra = none) ∧ Below w.heap.size w w' := by
  have hmm := @run_makeMap Tryz.prog
  go_enter Tryz.func18, Tryz.ntmps18
  go_wp2_with fail
  refine (popenR_w 0 lo d n m D _ k h1 h2 hlo).mono ?_
  rintro e w1 ⟨p, rfl, kp, b1, hpw⟩
  have HP := hid hpw
  have hB1 := hB.below b1
  go_wp2_with (at_make; refine wpList_mkn elRef rfl _ _ rfl w1.heap.size _ _ _ _ 7 rfl rfl rfl rfl (by omega) (by unfold maxLen; omega) (Nat.le_refl _) ?_; intro w2 hown2 hg2)
  have g2 := (below_growns hg2 (Nat.le_refl w1.heap.size))
  have kp2 := kp.below g2
  have hz2 := g2.size
  have hz1 := b1.size
  have hot : OwnRefs w2 w1.heap.size (.slice (some ⟨w1.heap.size, 0, none⟩) 7 7) 7 (List.replicate 7 (0, 0)) := by
    have e : (madeCells (Value.agg #[Value.int IntKind.i64 0, Value.int IntKind.u32 0]).cells (7 * 2)).toList = refCells (List.replicate 7 (0, 0)) := by first | kernel_rfl | (simp [madeCells, refCells]; done) | decide
    rw [e] at hown2
    exact hown2
  have hpl := kp.plt
  have hk := SAt.fresh0 kp2 hot (by omega) (fun hm => by
    rcases List.mem_cons.1 hm with h | hm
    · omega
    · rcases List.mem_cons.1 hm with h | hm
      · have := kp.dev.dlt; omega
      · obtain ⟨es, ck, hb⟩ := kp.dev.maps _ hm
        have := (Array.getElem?_eq_some_iff.1 hb).1; omega)
  obtain ⟨S, hS⟩ : ∃ S, S = Obj.cells (scells d p 0 none 0 0 w1.heap.size 7 w2.heap.size (w2.heap.size + 1) 0) 93 := ⟨_, rfl⟩
  rw [← hS] at hk
  have b3 : Below w2.heap.size w2 (((w2.alloc (.map #[] 0)).alloc (.map #[] 0)).alloc S) := (((Below.refl _ w2).alloc (Nat.le_refl _) (.map #[] 0)).alloc (by simp) (.map #[] 0)).alloc (by simp; omega) S
  have kl := load_w bs d lo n m D _ (kp2.dev.below b3) ((hB1.below g2).below b3) hu h1 h2 hbt
  rw [hb, hS] at kl
  rw [hS] at hk b3
  refine kl.mono ?_
  rintro e w3 ⟨⟨a, c, rfl, hR⟩, b4⟩
  have K4 := hid (hk.below b4)
  have HB := hid (And.intro b1 (And.intro g2 (And.intro b3 b4)))
  clear kl hk hR hB1 kp kp2 hB k hown2 hot hg2 g2 b1 b3 b4
  go_wp2_with (refine (PageW.or_w _ _).mono ?_; rintro e w' ⟨rfl, rfl⟩)
  obtain ⟨b1, g2, b3, b4⟩ := HB.out
  have b5 := (Below.refl w3.heap.size w3).alloc (Nat.le_refl _) (Obj.cells #[Value.int IntKind.i64 0, Value.slice a 0 c] 89)
  exact bodyPost_ret (v := .tuple #[ptr (w2.heap.size + 1 + 1), .nilIface]) (by simp [results, Tryz.results18, go_sem]) rfl ⟨_, rfl, K4.out.below b5, rfl, rfl, rfl, rfl, fun x hx => (by
    have hp1 := HP.out
    have hs1 := b1.size
    simp only [Si.own, List.mem_cons] at hx
    rcases hx with h | h | h | h | h
    · right; omega
    · right; omega
    · right; omega
    · right; omega
    · left; exact List.mem_cons.2 h), ⟨b1.size, rfl⟩, (((b1.trans (g2.mono b1.size)).trans (b3.mono (by omega))).trans (b4.mono (by have := b3.size; omega))).trans (b5.mono (by have := b3.size; have := b4.size; omega))⟩
end Go.Proofs.YtbjfgdahfpfgdaaGreatDoor.PgW

namespace Go.Proofs.YtbjfgdahfpfgdaaGreatDoor.PgW
open Go Go.RowKit Go.Proofs.YtbjfgdahfpfgdaaGreatDoor.Mem Go.Proofs.YtbjfgdahfpfgdaaGreatDoor.DevG Go.Proofs.YtbjfgdahfpfgdaaGreatDoor.RefsW
set_option linter.unusedVariables false
set_option maxRecDepth 100000

theorem run_copy_cells2 {P : Program} (w : World) (dT sT ty elem : TypeId) (b o dLen dCap : Nat) (a : Addr) (sLen sCap : Nat) (cs : List Value)
    (hu : P.underlying dT = some (.slice elem)) (hs : (P.info? elem).map (·.size) = some 2) (hn : cs.length = Nat.min sLen dLen * 2)
    (hsrc : ∀ j v, cs[j]? = some v → w.cell? (a.add j) = some v) (hc : ∀ j, j < cs.length → (w.cell? ⟨b, o + j, none⟩).isSome = true) (hf : ∀ j, j < cs.length → w.frozen? ⟨b, o + j, none⟩ = false) (h1 : ∀ v ∈ cs, v.oneCell' = true) :
    (Builtin.copy_ #[dT, sT] ty #[.slice (some ⟨b, o, none⟩) dLen dCap, .slice (some a) sLen sCap]).run P w = .ok (goInt (Nat.min sLen dLen)) (w.setCells b o cs) := by
  have hl := run_loadCells_list (P := P) w a cs hsrc
  have hst := run_storeCells_cells (P := P) b o cs 0 w (by simpa using hc) (by simpa using hf) h1
  cases hq : P.info? elem with
  | none => simp [hq] at hs
  | some i =>
    have hi : i.size = 2 := by simpa [hq] using hs
    simp [Builtin.copy_, run_underlying hu, Builtin.lenOf, Builtin.firstCells, sizeOf, typeInfo, hq, hi, ← hn, hl, hst]
theorem turn_setCells (b : Nat) : ∀ (vs : List Value) (o : Nat) (w : World), Turn [b] w (w.setCells b o vs)
  | [], o, w => Turn.refl _ _
  | v :: vs, o, w => (Turn.setCell w b o v (by simp)).then (turn_setCells b vs (o + 1) _)
/-- what was copied whole -/
theorem refs_setCells {w : World} {b c n : Nat} {T0 T : List (Int × Nat)} (h : Refs w (some ⟨b, 0, none⟩) n c T0) (hl : T.length = n) : Refs (w.setCells b 0 (refCells T)) (some ⟨b, 0, none⟩) n c T := by
  obtain ⟨h1, h2, h3, h4, h5⟩ := h
  rw [refCells_length] at h1
  have hlen : (refCells T).length = n * 2 := by rw [refCells_length]; omega
  refine ⟨by rw [hlen], h2, h3, fun e => by simp at e, fun j u hj => ?_⟩
  have hj2 : j < (refCells T).length := (List.getElem?_eq_some_iff.1 hj).1
  have hin := World.cell?_setCells_in b (refCells T) 0 w (fun j hj => by
    have hj3 : j < (refCells T0).length := by rw [refCells_length]; omega
    obtain ⟨b', o', e, hc⟩ := h5 j _ (List.getElem?_eq_getElem hj3)
    cases e
    rw [hc]; rfl) j hj2
  refine ⟨b, 0, rfl, ?_⟩
  rw [hin]
  exact ((List.getElem?_eq_getElem hj2).symm.trans hj)
/-- the tables are others -/
theorem SAt.setTabs {w : World} {lo n : Nat} {m : Mp} {D : Dv} {I : Si} {S : PgP.St} {T : List (Int × Nat)} (k : SAt w lo n m D I S) (hl : T.length = 7) (hr : ∀ b o, I.ra = some ⟨b, o, none⟩ → b ≠ I.tb) : SAt (w.setCells I.tb 0 (refCells T)) lo n m D I { S with tabs := T } := by
  have ht := turn_setCells I.tb (refCells T) 0 w
  obtain ⟨b', o', e, hc, _⟩ := k.tabs.at (j := 0) (by rw [k.tabs.len]; decide)
  cases e
  have hno : ∀ x ∈ [I.tb], NoCells w x ∨ ∃ v, w.cell? ⟨x, 0, none⟩ = some v ∧ ∀ z, v ≠ .int .u8 z := fun x hx => by rw [List.mem_singleton.1 hx]; exact .inr ⟨_, hc, fun z e => by cases e⟩
  obtain ⟨k1, h1⟩ := k.at_
  obtain ⟨k2, h2⟩ := k.now
  have out : ∀ x ∈ I.own m, x ∉ [I.tb] := fun x hx hm => k.tx (by rw [← List.mem_singleton.1 hm]; exact hx)
  refine ⟨k.pr.away ht (fun x hx hm => ?_) hno, ht.cells k.cells (out _ (by simp)), refs_turn k.refs ht fun b o e hm => hr b o e (List.mem_singleton.1 hm), refs_setCells k.tabs hl, ⟨k1, ref_turn h1 ht (out _ (by simp))⟩, ⟨k2, now_turn0 h2 ht (out _ (by simp)) hno⟩, k.ao, k.sx, k.ax, k.ox, fun b off e => ⟨Nat.lt_of_lt_of_le (k.rx b off e).1 ht.size, (k.rx b off e).2⟩, k.tx, k.slo⟩
  refine out x ?_ hx
  rcases List.mem_cons.1 hm with e | hm
  · simp [e]
  · simp only [List.mem_cons]; exact .inr (.inr (.inr (.inr (List.mem_cons.1 hm))))
theorem refCells_one : ∀ (T : List (Int × Nat)) (v : Value), v ∈ refCells T → v.oneCell' = true
  | [], v, h => by cases h
  | r :: T, v, h => by
    rcases List.mem_cons.1 h with rfl | h
    · rfl
    · rcases List.mem_cons.1 h with rfl | h
      · rfl
      · exact refCells_one T v h
theorem step_copy_refs {ops : Array Oper} {o : Oper} {a : Act} {w : World} {K : Act → World → Prop} {Q : Exit → Act → World → Prop} {E : Prop} (hgd : o.guard = none) (d s : Operand)
    (ho : o.op = .call { callee := .builtin .copy, args := #[d, s], argTypes := #[87, 87] }) (tb tc c : Nat) (ad : Addr) (T0 T : List (Int × Nat)) (hd : a.eval d = .slice (some ⟨tb, 0, none⟩) 7 tc) (hs : a.eval s = .slice (some ad) 7 c) (hl : T.length = 7)
    (h0 : Refs w (some ⟨tb, 0, none⟩) 7 tc T0) (hf : ∀ j, w.frozen? ⟨tb, j, none⟩ = false) (h1 : Refs w (some ad) 7 c T) (h : K (a.put o.dst (goInt 7)) (w.setCells tb 0 (refCells T))) :
    if Region.wanted o (yielded ops a.tmps) = true then Oper.wp Tryz.prog o a w K Q else E := by
  have hw : Region.wanted o (yielded ops a.tmps) = true := by simp [Region.wanted, hgd]
  rw [if_pos hw]
  have hrun := run_copy_cells2 (P := Tryz.prog) w 87 87 o.type 111 tb 0 7 tc ad 7 c (refCells T) Tryz.underlying87 (by kernel_rfl) (by rw [refCells_length, hl]; rfl)
    (fun j v hj => by
      obtain ⟨b, off, e, hc⟩ := h1.2.2.2.2 j v hj
      cases e
      rw [Addr.add_lit]
      exact hc)
    (fun j hj => by
      have hj3 : j < (refCells T0).length := by rw [refCells_length] at hj ⊢; have := h0.len; omega
      obtain ⟨b', o', e, hc⟩ := h0.2.2.2.2 j _ (List.getElem?_eq_getElem hj3)
      cases e
      rw [hc]; rfl)
    (fun j _ => by rw [Nat.zero_add]; exact hf j)
    (refCells_one T)
  unfold Oper.wp
  simp [execOp, ho, resolve, invoke, builtin, hd, hs, hrun, Result.andThen]
  exact h
end Go.Proofs.YtbjfgdahfpfgdaaGreatDoor.PgW
