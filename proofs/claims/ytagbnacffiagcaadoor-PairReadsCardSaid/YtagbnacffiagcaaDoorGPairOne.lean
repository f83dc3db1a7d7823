/- One copy of a pair read. -/
import Derived.Test.YtagbnacffiagcaaDoorGPair
import Derived.LaidEql
import Derived.LaidEqlPtr
namespace Go.Proofs.YtagbnacffiagcaaDoor.PairG
open Go Go.RowKit Go.Maps Go.Proofs.YtagbnacffiagcaaDoor.Mem Go.Proofs.YtagbnacffiagcaaDoor.MapsW Go.Proofs.YtagbnacffiagcaaDoor.SeeW Go.Proofs.YtagbnacffiagcaaDoor.DevG
set_option linter.unusedVariables false
set_option maxRecDepth 100000

/-- one copy: its bytes, whether they have the sum -/
def One (w : World) (r : Option (List Nat)) (sum : Nat) (e : Ending) (w' : World) : Prop :=
  (match r with
    | some l => ∃ g cap, e = .returned (.tuple #[.slice (some ⟨g, 0, none⟩) 256 cap, .bool (decide (Crc.sum l = sum)), .nilIface]) ∧ Nums .u8 w' (some ⟨g, 0, none⟩) 256 cap l ∧ w.heap.size ≤ g
    | none => e = .returned (.tuple #[.slice none 0 0, .bool false, .nilIface])) ∧ Below w.heap.size w w'
set_option maxHeartbeats 1600000 in
theorem one_w (bs : List Addr) (lo d n : Nat) (m : Mp) (D : Dv) (p h c : Nat) (i sum : Nat) (w : World) (k : PAt w lo d n m D p h c) (hB : Ev w lo bs five) (hi : i < D.blocks) (hbt : ∀ l, D.read i = some l → Crc.Bytes l) :
    Calls Tryd.prog 81 #[ptr p, .int .i64 i, .int .u32 sum] w (One w (D.read i) sum) := by
  obtain ⟨c0, c1, c2, c3, f3⟩ := k.c
  have hr := read_up bs d lo n m D i w k.dev hB (fits_nat (by have := k.most; omega)) k.up (by omega)
  unfold One
  cases hD : D.read i with
  | some l =>
    rw [hD] at hr
    have hb := hbt l hD
    go_enter Tryd.func81, Tryd.ntmps81
    go_wp2_with fail
    refine hr.mono ?_
    rintro e w1 ⟨⟨g, cap, rfl, hn, hg⟩, hb1⟩
    obtain ⟨aI, haI, hAI⟩ := (hB.below hb1).get 6 _ (by decide) rfl
    have hA1 := hAI.1
    have he := fun w => run_eql_iface_nil_left (P := Tryd.prog) (w := w) Err.tp (.pointer (some aI)) Tryd.underlying38
    go_wp2_with fail
    refine (CrcW.sum_w _ 256 cap l _ hn hb).mono ?_
    rintro e w2 ⟨rfl, rfl⟩
    have hse : (((Crc.sum l : Nat) : Int) == (sum : Int)) = decide (Crc.sum l = sum) := by
      rw [Bool.eq_iff_iff, beq_iff_eq, decide_eq_true_eq]; omega
    generalize hgs : Crc.sum l = s at *
    have HS := hid hse
    have HG := hid hgs
    clear hse hgs
    go_wp2
    refine bodyPost_ret (v := .tuple #[.slice (some ⟨g, 0, none⟩) 256 cap, .bool ((s : Int) == (sum : Int)), .nilIface]) (by simp [results, Tryd.results81, go_sem]) rfl ⟨⟨g, cap, by rw [HS.out, HG.out], hn, hg⟩, hb1⟩
  | none =>
    rw [hD] at hr
    go_enter Tryd.func81, Tryd.ntmps81
    go_wp2_with fail
    refine hr.mono ?_
    rintro e w1 ⟨⟨aI', haI', rfl⟩, hb1⟩
    obtain ⟨aI, haI, hAI⟩ := (hB.below hb1).get 6 _ (by decide) rfl
    rw [haI] at haI'
    cases haI'
    have hA1 := hAI.1
    obtain ⟨i1, hi1, hi2⟩ : ∃ i, Tryd.prog.info? Err.tp = some i ∧ i.comparable = true := ⟨_, rfl, by kernel_rfl⟩
    obtain ⟨j, hj⟩ : ∃ j, Tryd.prog.info? 227 = some j := ⟨_, rfl⟩
    have he := fun w => run_eql_iface_ptr_same (P := Tryd.prog) (w := w) aI' Tryd.underlying38 Tryd.underlying213 hi1 hi2 hj
    go_wp2
    refine bodyPost_ret (v := .tuple #[.slice none 0 0, .bool false, .nilIface]) (by simp [results, Tryd.results81, go_sem]) rfl ⟨rfl, hb1⟩

abbrev Rf (i : Int) (s : Nat) : Value := .agg #[.int .i64 i, .int .u32 s]

/-- what a read of a pair gives, what the device is then, how many were mended -/
def readP (D : Dv) (h c i s : Nat) : Option (List Nat) × Dv × Nat :=
  match D.read i with
  | some l => if Crc.sum l = s then (some l, D, c) else
    match D.read (i + h : Nat) with
    | some l' => if Crc.sum l' = s then (some l', D.put i l', c + 1) else (none, D, c)
    | none => (none, D, c)
  | none =>
    match D.read (i + h : Nat) with
    | some l' => if Crc.sum l' = s then (some l', D.put i l', c + 1) else (none, D, c)
    | none => (none, D, c)

/-- what the second copy gives, where the first did not -/
def second (D : Dv) (h c i s : Nat) : Option (List Nat) × Dv × Nat :=
  match D.read (i + h : Nat) with
  | some l' => if Crc.sum l' = s then (some l', D.put i l', c + 1) else (none, D, c)
  | none => (none, D, c)
theorem readP_first {D : Dv} {h c i s : Nat} {l : List Nat} (h1 : D.read i = some l) (h2 : Crc.sum l = s) : readP D h c i s = (some l, D, c) := by
  unfold readP; rw [h1]; simp only; rw [if_pos h2]
theorem readP_second {D : Dv} {h c i s : Nat} (h1 : ∀ l, D.read i = some l → Crc.sum l ≠ s) : readP D h c i s = second D h c i s := by
  unfold readP second
  cases hD : D.read i with
  | none => rfl
  | some l => simp only; rw [if_neg (h1 l hD)]

def ReadTo (bs : List Addr) (w : World) (lo d n : Nat) (m : Mp) (p h : Nat) (r : Option (List Nat) × Dv × Nat) (e : Ending) (w' : World) : Prop :=
  (match r.1 with
    | some l => ∃ g cap, e = .returned (.tuple #[.slice (some ⟨g, 0, none⟩) 256 cap, .nilIface]) ∧ Nums .u8 w' (some ⟨g, 0, none⟩) 256 cap l ∧ w.heap.size ≤ g
    | none => ∃ a, bs[6]? = some a ∧ e = .returned (.tuple #[.slice none 0 0, ev a])) ∧ PAt w' lo d (n + 1) m r.2.1 p h r.2.2 ∧ Turn (p :: own d m) w w'

set_option maxHeartbeats 3200000 in
theorem read_first (bs : List Addr) (lo d n : Nat) (m : Mp) (D : Dv) (p h c : Nat) (i s : Nat) (w : World) (k : PAt w lo d n m D p h c) (hB : Ev w lo bs five) (hi : i < h) (hbt : ∀ j l, D.read j = some l → Crc.Bytes l) {l : List Nat} (h1 : D.read i = some l) (h2 : Crc.sum l = s) :
    Calls Tryd.prog 19 #[ptr p, Rf i s] w (ReadTo bs w lo d n m p h (some l, D, c)) := by
  have hhf := k.half
  have hmo := k.most
  have hf : Fits (i : Int) := fits_nat (by omega)
  have hd : decide (0 ≤ (i : Int) ∧ (i : Int) < h) = true := by rw [decide_eq_true_eq]; omega
  have bx := (Below.refl w.heap.size w).alloc (Nat.le_refl _) (.cells #[.int .i64 i, .int .u32 s] 32)
  obtain ⟨q0, q1⟩ := new2 w (.int .i64 i) (.int .u32 s) 32
  have kx := k.below bx
  have ho := one_w bs lo d n m D p h c i s _ kx (hB.below bx) (by omega) (fun l hl => hbt i l hl)
  rw [h1] at ho
  unfold One at ho
  simp only [h2, decide_true] at ho
  go_enter Tryd.func19, Tryd.ntmps19
  go_wp2_with fail
  refine (is_w lo d n m D p h c i _ kx hf).mono ?_
  rintro e w' ⟨rfl, rfl⟩
  rw [hd]
  go_wp2_with fail
  refine ho.mono ?_
  rintro e w1 ⟨⟨g, cap, rfl, hn, hg⟩, hb1⟩
  have hb2 : Below w.heap.size w w1 := bx.trans (hb1.mono (by simp))
  have k2 := kx.below hb1
  go_wp2
  refine bodyPost_ret (v := .tuple #[.slice (some ⟨g, 0, none⟩) 256 cap, .nilIface]) (by simp [results, Tryd.results19, go_sem]) rfl ⟨⟨g, cap, rfl, hn, by simp at hg; omega⟩, k2.mono (by omega) (Nat.le_refl _), Turn.of_below hb2⟩

/-- a copy that has not the sum -/
theorem one_not (bs : List Addr) (lo d n : Nat) (m : Mp) (D : Dv) (p h c : Nat) (i s : Nat) (w : World) (k : PAt w lo d n m D p h c) (hB : Ev w lo bs five) (hi : i < D.blocks) (hbt : ∀ l, D.read i = some l → Crc.Bytes l) (hns : ∀ l, D.read i = some l → Crc.sum l ≠ s) :
    Calls Tryd.prog 81 #[ptr p, .int .i64 i, .int .u32 s] w fun e w' => (∃ a n cap, e = .returned (.tuple #[.slice a n cap, .bool false, .nilIface])) ∧ Below w.heap.size w w' := by
  have ho := one_w bs lo d n m D p h c i s w k hB hi hbt
  unfold One at ho
  cases hD : D.read i with
  | none =>
    rw [hD] at ho
    refine ho.mono ?_
    rintro e w' ⟨rfl, hb⟩
    exact ⟨⟨_, _, _, rfl⟩, hb⟩
  | some l =>
    rw [hD] at ho
    simp only [decide_eq_false (hns l hD)] at ho
    refine ho.mono ?_
    rintro e w' ⟨⟨g, cap, rfl, _⟩, hb⟩
    exact ⟨⟨_, _, _, rfl⟩, hb⟩
end Go.Proofs.YtagbnacffiagcaaDoor.PairG
