/- The walks of package dev: faults, reading. -/
import Derived.Test.YtagbnacffiagcaaDoorGDevPut
import Derived.Test.YtagbnacffiagcaaDoorCrcWalk
namespace Go.Proofs.YtagbnacffiagcaaDoor.DevG
open Go Go.RowKit Go.Maps Go.Proofs.YtagbnacffiagcaaDoor.Mem Go.Proofs.YtagbnacffiagcaaDoor.MapsW Go.Proofs.YtagbnacffiagcaaDoor.SeeW
set_option linter.unusedVariables false
set_option maxRecDepth 100000

/-- what a device has behind Fail -/
def Dv.fail (D : Dv) (i : Int) : Dv := if D.may i then { D with fi := upd D.fi i true }.fault i else D

set_option maxHeartbeats 800000 in
theorem fail_w (d lo n : Nat) (m : Mp) (D : Dv) (i : Int) (w : World) (h : At w lo d n m D) (hf : Fits i) (hn : n < 90000) :
    Calls Tryd.prog 17 #[ptr d, .int .i64 i] w fun e w' => e = .returned (.bool (D.may i)) ∧ At w' lo d (n + 3) m (D.fail i) ∧ Turn (own d m) w w' := by
  obtain ⟨c0, c1, c2, c3, c4, c5, c6, c7, c8, f6, f2, f7, f8⟩ := h.c
  have hm := may_w d lo n m D i w h hf
  cases hM : D.may i
  · rw [hM] at hm
    have e1 : D.fail i = D := by unfold Dv.fail; rw [hM]; rfl
    rw [e1]
    go_enter Tryd.func17, Tryd.ntmps17
    go_wp2_with fail
    refine hm.mono ?_
    rintro e w' ⟨rfl, rfl⟩
    go_wp2
    go_ret
    exact ⟨rfl, h.mono (by omega) (Nat.le_refl _), Turn.refl _ _⟩
  · rw [hM] at hm
    have e1 : D.fail i = { D with fi := upd D.fi i true }.fault i := by unfold Dv.fail; rw [hM]; rfl
    rw [e1]
    go_enter Tryd.func17, Tryd.ntmps17
    go_wp2_with fail
    refine hm.mono ?_
    rintro e w' ⟨rfl, rfl⟩
    go_wp2_with (at_mapUpdate; refine wpList_putBool _ rfl _ _ _ rfl h.bi (by omega) hf true rfl rfl rfl ?_; intro w1 hr1 hg1)
    have h1 := h.putI hr1 hg1
    refine (fault_w d lo (n + 1) m _ i _ h1 hf (by omega)).mono ?_
    rintro e w2 ⟨rfl, h2, t2⟩
    go_wp2
    go_ret
    exact ⟨rfl, h2, (Turn.of_grown hg1 (mem_own d m).2.2.2.2.1).then t2⟩

/-- what a read gives, of a block that is, of a device that is up: the bytes, or none -/
def Dv.read (D : Dv) (i : Int) : Option (List Nat) :=
  match D.pe i with
  | some l => some l
  | none => if D.fi i then none else some (keptOf D i)
/-- a read, whatever is: the error's place, or the bytes -/
def Dv.get (D : Dv) (i : Int) : Except Nat (List Nat) :=
  if D.down then .error 5 else if 0 ≤ i ∧ i < D.blocks then (match D.read i with
    | some l => .ok l
    | none => .error 6) else .error 4
/-- what is handed back of a read -/
def Got (bs : List Addr) (w : World) (r : Except Nat (List Nat)) (e : Ending) (w' : World) : Prop := match r with
  | .ok l => ∃ g cap, e = .returned (.tuple #[.slice (some ⟨g, 0, none⟩) 256 cap, .nilIface]) ∧ Nums .u8 w' (some ⟨g, 0, none⟩) 256 cap l ∧ w.heap.size ≤ g
  | .error k => ∃ a, bs[k]? = some a ∧ e = .returned (.tuple #[.slice none 0 0, ev a])
set_option maxHeartbeats 1600000 in
theorem read_up (bs : List Addr) (d lo n : Nat) (m : Mp) (D : Dv) (i : Int) (w : World) (h : At w lo d n m D) (hB : Ev w lo bs five) (hf : Fits i) (hu : D.down = false) (hi : 0 ≤ i ∧ i < D.blocks) :
    Calls Tryd.prog 36 #[ptr d, .int .i64 i] w fun e w' => Got bs w (match D.read i with
      | some l => .ok l
      | none => .error 6) e w' ∧ Below w.heap.size w w' := by
  have hd : decide (0 ≤ i ∧ i < D.blocks) = true := decide_eq_true hi
  clear hi
  obtain ⟨c0, c1, c2, c3, c4, c5, c6, c7, c8, f6, f2, f7, f8⟩ := h.c
  rw [hu] at c8
  have hfi := h.bi.look hf
  cases hF : D.pe i with
  | some l =>
    obtain ⟨g, cap, hl, hn, _⟩ := h.rp.look_some hf hF
    have e1 : D.read i = some l := by unfold Dv.read; rw [hF]
    rw [e1]
    go_enter Tryd.func36, Tryd.ntmps36
    go_wp2_with fail
    refine (is_w d lo n m D i _ h hf).mono ?_
    rintro e w' ⟨rfl, rfl⟩
    rw [hd]
    go_wp2_with fail
    refine (RefW.clone_w _ 256 cap l _ hn (by decide)).mono ?_
    rintro e w1 ⟨v, rfl, own1, hb1⟩
    obtain ⟨g1, cap1, rfl, hn1, hg1⟩ := row_of own1
    go_wp2
    refine bodyPost_ret (v := .tuple #[.slice (some ⟨g1, 0, none⟩) 256 cap1, .nilIface]) (by simp [results, Tryd.results36, go_sem]) rfl ⟨⟨_, _, rfl, hn1, hg1⟩, hb1⟩
  | none =>
    have hl := h.rp.look_none hf hF
    cases hI : D.fi i
    · have e1 : D.read i = some (keptOf D i) := by unfold Dv.read; rw [hF]; simp only; rw [hI]; rfl
      rw [e1]
      rw [hI] at hfi
      go_enter Tryd.func36, Tryd.ntmps36
      go_wp2_with fail
      refine (is_w d lo n m D i _ h hf).mono ?_
      rintro e w' ⟨rfl, rfl⟩
      rw [hd]
      go_wp2_with fail
      refine (kept_w d lo n m D i _ h hf).mono ?_
      rintro e w1 ⟨g, cap, rfl, hn, _, hb1⟩
      go_wp2_with fail
      refine (RefW.clone_w _ 256 cap _ _ hn (by decide)).mono ?_
      rintro e w2 ⟨v, rfl, own2, hb2⟩
      obtain ⟨g1, cap1, rfl, hn1, hg1⟩ := row_of own2
      have z1 := hb1.size
      go_wp2
      refine bodyPost_ret (v := .tuple #[.slice (some ⟨g1, 0, none⟩) 256 cap1, .nilIface]) (by simp [results, Tryd.results36, go_sem]) rfl ⟨⟨_, _, rfl, hn1, by omega⟩, hb1.trans (hb2.mono z1)⟩
    · have e1 : D.read i = none := by unfold Dv.read; rw [hF]; simp only; rw [hI]; rfl
      rw [e1]
      rw [hI] at hfi
      obtain ⟨aI, haI, hAI⟩ := hB.get 6 _ (by decide) rfl
      have hA1 := hAI.1
      go_enter Tryd.func36, Tryd.ntmps36
      go_wp2_with fail
      refine (is_w d lo n m D i _ h hf).mono ?_
      rintro e w' ⟨rfl, rfl⟩
      rw [hd]
      go_wp2
      go_quiet (fail)
      go_wp2
      refine bodyPost_ret (v := .tuple #[.slice none 0 0, ev aI]) (by simp [results, Tryd.results36, go_sem]) rfl ⟨⟨aI, haI, rfl⟩, below_drewN (Below.refl _ _) _⟩
set_option maxHeartbeats 1600000 in
theorem read_w (bs : List Addr) (d lo n : Nat) (m : Mp) (D : Dv) (i : Int) (w : World) (h : At w lo d n m D) (hB : Ev w lo bs five) (hf : Fits i) :
    Calls Tryd.prog 36 #[ptr d, .int .i64 i] w fun e w' => Got bs w (D.get i) e w' ∧ Below w.heap.size w w' := by
  unfold Dv.get
  cases hu : D.down
  · by_cases hi : 0 ≤ i ∧ i < D.blocks
    · rw [if_neg (by decide), if_pos hi]
      exact read_up bs d lo n m D i w h hB hf hu hi
    · rw [if_neg (by decide), if_neg hi]
      have hd : decide (0 ≤ i ∧ i < D.blocks) = false := decide_eq_false hi
      clear hi
      obtain ⟨c0, c1, c2, c3, c4, c5, c6, c7, c8, f6, f2, f7, f8⟩ := h.c
      rw [hu] at c8
      obtain ⟨aF, haF, hAF⟩ := hB.get 4 _ (by decide) rfl
      have hA1 := hAF.1
      go_enter Tryd.func36, Tryd.ntmps36
      go_wp2_with fail
      refine (is_w d lo n m D i _ h hf).mono ?_
      rintro e w' ⟨rfl, rfl⟩
      rw [hd]
      go_wp2
      go_quiet (fail)
      go_wp2
      refine bodyPost_ret (v := .tuple #[.slice none 0 0, ev aF]) (by simp [results, Tryd.results36, go_sem]) rfl ⟨⟨aF, haF, rfl⟩, below_drewN (Below.refl _ _) _⟩
  · rw [if_pos rfl]
    obtain ⟨c0, c1, c2, c3, c4, c5, c6, c7, c8, f6, f2, f7, f8⟩ := h.c
    rw [hu] at c8
    obtain ⟨aF, haF, hAF⟩ := hB.get 5 _ (by decide) rfl
    have hA1 := hAF.1
    go_enter Tryd.func36, Tryd.ntmps36
    go_wp2
    go_quiet (fail)
    go_wp2
    refine bodyPost_ret (v := .tuple #[.slice none 0 0, ev aF]) (by simp [results, Tryd.results36, go_sem]) rfl ⟨⟨aF, haF, rfl⟩, below_drewN (Below.refl _ _) _⟩

/-- may a block be turned so? -/
def Dv.mayS (D : Dv) (i at_ : Int) (t : Nat) : Bool := D.may i && decide (0 ≤ at_ ∧ at_ ≤ 252 ∧ t ≠ 0)
/-- what a device has behind Spoil -/
def Dv.spoil (D : Dv) (i : Int) (at_ : Int) (t : Nat) : Dv := if D.mayS i at_ t then { D with fl := upd D.fl i (some (Crc.turned (keptOf D i) at_ t)) }.fault i else D
theorem spoil_no {D : Dv} {i at_ : Int} {t : Nat} (h : D.mayS i at_ t = false) : D.spoil i at_ t = D := by unfold Dv.spoil; rw [h]; rfl
theorem spoil_yes {D : Dv} {i at_ : Int} {t : Nat} (h : D.mayS i at_ t = true) : D.spoil i at_ t = { D with fl := upd D.fl i (some (Crc.turned (keptOf D i) at_ t)) }.fault i := by unfold Dv.spoil; rw [h]; rfl
set_option maxHeartbeats 1600000 in
theorem spoil_w (d lo n : Nat) (m : Mp) (D : Dv) (i at_ : Int) (t : Nat) (w : World) (h : At w lo d n m D) (hf : Fits i) (hn : n < 90000) (ha : Fits at_) (ht : t < 4294967296) (hbt : Crc.Bytes (keptOf D i)) :
    Calls Tryd.prog 16 #[ptr d, .int .i64 i, .int .i64 at_, .int .u32 t] w fun e w' => e = .returned (.bool (D.mayS i at_ t)) ∧ At w' lo d (n + 3) m (D.spoil i at_ t) ∧ Turn (own d m) w w' := by
  obtain ⟨c0, c1, c2, c3, c4, c5, c6, c7, c8, f6, f2, f7, f8⟩ := h.c
  have hm := may_w d lo n m D i w h hf
  have hdl := h.dlt
  cases hM : D.may i
  · rw [hM] at hm
    have e2 : D.mayS i at_ t = false := by unfold Dv.mayS; rw [hM]; rfl
    rw [spoil_no e2, e2]
    clear e2
    go_enter Tryd.func16, Tryd.ntmps16
    go_wp2_with fail
    refine hm.mono ?_
    rintro e w' ⟨rfl, rfl⟩
    go_wp2
    go_ret
    exact ⟨rfl, h.mono (by omega) (Nat.le_refl _), Turn.refl _ _⟩
  · rw [hM] at hm
    by_cases ha0 : 0 ≤ at_
    · by_cases ha1 : at_ ≤ 252
      · by_cases h0 : t = 0
        · subst h0
          have e2 : D.mayS i at_ 0 = false := by unfold Dv.mayS; rw [hM]; simp
          rw [spoil_no e2, e2]
          clear e2
          go_enter Tryd.func16, Tryd.ntmps16
          go_wp2_with fail
          refine hm.mono ?_
          rintro e w' ⟨rfl, rfl⟩
          go_wp2
          go_ret
          exact ⟨rfl, h.mono (by omega) (Nat.le_refl _), Turn.refl _ _⟩
        · have e2 : D.mayS i at_ t = true := by unfold Dv.mayS; rw [hM, decide_eq_true ⟨ha0, ha1, h0⟩]; rfl
          rw [spoil_yes e2, e2]
          have t0 : ((t : Int) == 0) = false := by rw [beq_eq_false_iff_ne]; omega
          clear e2
          go_enter Tryd.func16, Tryd.ntmps16
          go_wp2_with fail
          refine hm.mono ?_
          rintro e w' ⟨rfl, rfl⟩
          go_wp2_with fail
          go_region_held3 (fun w' => w'.cell? ⟨d, 1, none⟩ = some (.map (some m.f))) (first | exact c1 | exact x3 | exact x4 | exact x5 | go_keep)
            (first
              | (go_at_call 79; refine (kept_w d lo n m D i _ (At.below h (below_drewN (Below.refl _ _) 1)) hf).mono ?_; rintro e w3 ⟨g3, gc3, rfl, hg3, hlt3, hb3⟩; have h3 := (At.below h (below_drewN (Below.refl _ _) 1)).below hb3; have x3 := h3.c.2.1)
              | (go_at_call 78; refine (CrcW.turned_w _ 256 gc3 _ at_ t _ hg3 hbt (by decide) ha.1 ha.2 ht).mono ?_; rintro e w4 ⟨v, rfl, own4, hb4⟩; obtain ⟨g, gc, rfl, hg, hgb⟩ := row_of own4; have h4 := h3.below hb4; have hd3 := h3.dlt; obtain ⟨k4, hk4⟩ := h4.rf; obtain ⟨w5, hrun, hr5, hg5⟩ := RowMap.store hk4 (by omega) hf hg (show 0 ≤ g by omega); have x4 := h4.c.2.1; have h5 := h4.putF hr5 hg5; have x5 := h5.c.2.1))
          have hT : Turn (own d m) w w5 := (((Turn.of_below (below_drewN (Below.refl _ w) 1)).then (Turn.of_below hb3)).then (Turn.of_below hb4)).then (Turn.of_grown hg5 (mem_own d m).2.1)
          go_wp2_with fail
          refine (fault_w d lo (n + 1) m _ i _ h5 hf (by omega)).mono ?_
          rintro e w6 ⟨rfl, h6, t6⟩
          go_wp2
          go_ret
          exact ⟨rfl, h6, hT.then t6⟩
      · have e2 : D.mayS i at_ t = false := by unfold Dv.mayS; rw [hM, decide_eq_false (fun x => ha1 x.2.1)]; rfl
        rw [spoil_no e2, e2]
        clear e2
        have g2 : decide ((252 : Int) < at_) = true := decide_eq_true (by omega)
        go_enter Tryd.func16, Tryd.ntmps16
        go_wp2_with fail
        refine hm.mono ?_
        rintro e w' ⟨rfl, rfl⟩
        go_wp2
        go_ret
        exact ⟨rfl, h.mono (by omega) (Nat.le_refl _), Turn.refl _ _⟩
    · have e2 : D.mayS i at_ t = false := by unfold Dv.mayS; rw [hM, decide_eq_false (fun x => ha0 x.1)]; rfl
      rw [spoil_no e2, e2]
      clear e2
      have g2 : decide (at_ < (0 : Int)) = true := decide_eq_true (by omega)
      go_enter Tryd.func16, Tryd.ntmps16
      go_wp2_with fail
      refine hm.mono ?_
      rintro e w' ⟨rfl, rfl⟩
      go_wp2
      go_ret
      exact ⟨rfl, h.mono (by omega) (Nat.le_refl _), Turn.refl _ _⟩

/-- what a device has behind Raw -/
def Dv.mayR (D : Dv) (i : Int) (n : Nat) : Bool := decide (0 ≤ i ∧ i < D.blocks) && decide (n = 256)
def Dv.raw (D : Dv) (i : Int) (l : List Nat) : Dv := { D.lay i l with pe := upd D.pe i none, np := if (D.pe i).isSome then D.np - 1 else D.np }
set_option maxHeartbeats 1600000 in
theorem raw_ok (d lo n : Nat) (m : Mp) (D : Dv) (i : Int) (a : Option Addr) (cap : Nat) (l : List Nat) (w : World) (h : At w lo d n m D) (hf : Fits i) (hi : 0 ≤ i ∧ i < D.blocks) (hl : Nums .u8 w a 256 cap l) (hn : n < 90000) :
    Calls Tryd.prog 47 #[ptr d, .int .i64 i, .slice a 256 cap] w fun e w' => e = .returned (.bool true) ∧ At w' lo d (n + 4) m (D.raw i l) ∧ Turn (own d m) w w' := by
  have hd : decide (0 ≤ i ∧ i < D.blocks) = true := decide_eq_true hi
  have hdl := h.dlt
  clear hi
  go_enter Tryd.func47, Tryd.ntmps47
  go_wp2_with fail
  refine (is_w d lo n m D i _ h hf).mono ?_
  rintro e w' ⟨rfl, rfl⟩
  rw [hd]
  go_wp2_with fail
  refine (RefW.clone_w _ 256 cap l _ hl (by decide)).mono ?_
  rintro e w1 ⟨v, rfl, own1', hb1⟩
  obtain ⟨g1, cap1, rfl, hn1, hg1⟩ := row_of own1'
  have h1 := h.below hb1
  go_wp2_with fail
  refine (lay_w d lo n m D i g1 cap1 l _ h1 hf hn1 (by omega) (by omega)).mono ?_
  rintro e w2 ⟨rfl, h2, t2⟩
  obtain ⟨c0, c1, c2, c3, c4, c5, c6, c7, c8, f6, f2, f7, f8⟩ := h2.c
  go_wp2_with (at_delete; refine wpList_delRow _ rfl _ _ rfl h2.rp hf rfl rfl ?_; intro w3 hr3 hg3)
  go_ret
  have hsub : Turn (own d m) w w2 := (Turn.of_below hb1).then (t2.mono (by simp [own, Mp.list]))
  exact ⟨rfl, h2.putP (hr3.mono (by omega) (Nat.le_refl _)) hg3, hsub.then (Turn.of_grown hg3 (mem_own d m).2.2.1)⟩
end Go.Proofs.YtagbnacffiagcaaDoor.DevG
