/- Plain facts: a pair of which one copy is faulted; what mends it. And the walks of Mend, Geo, and of places that are none. -/
import Derived.Test.YtjecnjgngahmfaaDoorPairSes
namespace Go.Proofs.YtjecnjgngahmfaaDoor.PairW
open Go Go.RowKit Go.Maps Go.Proofs.YtjecnjgngahmfaaDoor.Mem Go.Proofs.YtjecnjgngahmfaaDoor.MapsW Go.Proofs.YtjecnjgngahmfaaDoor.SeeW Go.Proofs.YtjecnjgngahmfaaDoor.DevW
set_option linter.unusedVariables false
set_option maxRecDepth 100000

/-- both copies are right, and nothing is pending -/
structure Both (E : Dv) (P : List Nat) (i j : Int) (b c : Nat) : Prop where
  blocks : E.blocks = b
  calls : E.calls ≤ c
  np : E.np = 0
  pe : ∀ x, E.pe x = none
  fl1 : E.fl i = some P
  fa1 : E.fa i = false
  fi1 : E.fi i = false
  fl2 : E.fl j = some P
  fa2 : E.fa j = false
  fi2 : E.fi j = false
/-- i is faulted, j is right -/
structure Half (F : Dv) (P : List Nat) (i j : Int) (b c : Nat) : Prop where
  blocks : F.blocks = b
  calls : F.calls ≤ c
  np : F.np = 0
  pe : ∀ x, F.pe x = none
  bad : ∀ l, F.read i = some l → Crc.sum l ≠ Crc.sum P
  fl2 : F.fl j = some P
  fa2 : F.fa j = false
  fi2 : F.fi j = false
theorem Both.swap {E : Dv} {P : List Nat} {i j : Int} {b c : Nat} (h : Both E P i j b c) : Both E P j i b c :=
  ⟨h.blocks, h.calls, h.np, h.pe, h.fl2, h.fa2, h.fi2, h.fl1, h.fa1, h.fi1⟩
theorem Both.put2 (D : Dv) (h i : Nat) (P : List Nat) (hh : 0 < h) (b c : Nat) (hb : D.blocks = b) (hc : D.calls + 3 ≤ c) : Both (put2 D h i P).flush P i ((i + h : Nat) : Int) b c := by
  obtain ⟨a1, a2, a3, a4⟩ := flushed D h i P hh i (.inl rfl)
  obtain ⟨b1, b2, b3, b4⟩ := flushed D h i P hh ((i + h : Nat) : Int) (.inr rfl)
  exact ⟨hb, hc, rfl, fun _ => rfl, a2, a3, a4, b2, b3, b4⟩
theorem Both.spoil {E : Dv} {P : List Nat} {i j : Int} {b c : Nat} (h : Both E P i j b c) (hij : j ≠ i) (hP : Blk P) (at_ t : Nat) (ha : at_ ≤ 252) (h0 : t ≠ 0) (ht : t < 4294967296) : E.may i = true ∧ Half (E.spoil i at_ t) P i j b c := by
  obtain ⟨m1, m2⟩ := spoiled E i at_ t h0 (h.pe i) h.fa1
  refine ⟨m1, ?_⟩
  have hr := spoiled_read E i at_ t h0 (h.pe i) h.fa1 h.fi1
  rw [kept_of h.fl1] at hr
  rw [m2] at hr ⊢
  refine ⟨h.blocks, h.calls, h.np, h.pe, fun l hl => ?_, ?_, ?_, h.fi2⟩
  · cases hl.symm.trans hr
    exact Crc.turned_sum_ne hP.1 (by rw [hP.2]; omega) h0 ht
  · exact (upd_other _ _ hij).trans h.fl2
  · exact (upd_other _ _ hij).trans h.fa2
theorem Both.fail {E : Dv} {P : List Nat} {i j : Int} {b c : Nat} (h : Both E P i j b c) (hij : j ≠ i) : E.may i = true ∧ Half (E.fail i) P i j b c := by
  have hm : E.may i = true := by unfold Dv.may; rw [h.pe, h.fa1]; rfl
  refine ⟨hm, ?_⟩
  have e : E.fail i = { E with fi := upd E.fi i true }.fault i := by unfold Dv.fail; rw [hm]; rfl
  rw [e]
  refine ⟨h.blocks, h.calls, h.np, h.pe, fun l hl => ?_, h.fl2, ?_, ?_⟩
  · have hx := read_failed (D := { E with fi := upd E.fi i true }.fault i) (j := i) (h.pe i) (upd_same E.fi i true)
    cases hl.symm.trans hx
  · exact (upd_other _ _ hij).trans h.fa2
  · exact (upd_other _ _ hij).trans h.fi2
theorem Half.mended {F : Dv} {P : List Nat} {i j : Int} {b c : Nat} (h : Half F P i j b c) (hij : j ≠ i) : Both (F.put i P).flush P i j b (c + 2) := by
  have e1 : (F.put i P).pe i = some P := upd_same _ _ _
  have e2 : (F.put i P).pe j = none := (upd_other _ _ hij).trans (h.pe j)
  refine ⟨h.blocks, by show F.calls + 1 + 1 ≤ _; have := h.calls; omega, rfl, fun _ => rfl, ?_, ?_, ?_, ?_, ?_, ?_⟩
  · show (if ((F.put i P).pe i).isSome then (F.put i P).pe i else _) = _; rw [e1]; rfl
  · show (if ((F.put i P).pe i).isSome then false else _) = _; rw [e1]; rfl
  · show (if ((F.put i P).pe i).isSome then false else _) = _; rw [e1]; rfl
  · show (if ((F.put i P).pe j).isSome then (F.put i P).pe j else _) = _; rw [e2]; exact h.fl2
  · show (if ((F.put i P).pe j).isSome then false else _) = _; rw [e2]; exact h.fa2
  · show (if ((F.put i P).pe j).isSome then false else _) = _; rw [e2]; exact h.fi2
theorem Half.read2 {F : Dv} {P : List Nat} {i j : Int} {b c : Nat} (h : Half F P i j b c) : F.read j = some P :=
  (read_flushed (h.pe j) h.fi2).trans (congrArg some (kept_of h.fl2))
theorem Half.first {F : Dv} {P : List Nat} {i h b c : Nat} (k : Half F P i ((i + h : Nat) : Int) b c) (m : Nat) : readP F h m i (Crc.sum P) = (some P, F.put i P, m + 1) := by
  rw [readP_second k.bad]
  unfold second
  rw [k.read2]
  exact if_pos rfl
theorem Half.second {F : Dv} {P : List Nat} {i h b c : Nat} (k : Half F P ((i + h : Nat) : Int) i b c) (m : Nat) : readP F h m i (Crc.sum P) = (some P, F, m) :=
  readP_first k.read2 rfl
theorem Both.read1 {F : Dv} {P : List Nat} {i j : Int} {b c : Nat} (h : Both F P i j b c) : F.read i = some P :=
  (read_flushed (h.pe i) h.fi1).trans (congrArg some (kept_of h.fl1))
theorem Half.right1 {F : Dv} {P : List Nat} {i : Nat} {j : Int} {b c : Nat} (h : Half F P i j b c) : right F i (Crc.sum P) = false := by
  unfold right
  cases hr : F.read i with
  | none => rfl
  | some l => exact decide_eq_false (h.bad l hr)
theorem Half.right2 {F : Dv} {P : List Nat} {i : Int} {j : Nat} {b c : Nat} (h : Half F P i j b c) : right F j (Crc.sum P) = true := by
  unfold right
  rw [h.read2]
  exact decide_eq_true rfl
theorem put_np (F : Dv) (i : Int) (P : List Nat) : (F.put i P).np ≤ F.np + 1 := by
  show (if (F.pe i).isSome then F.np else F.np + 1) ≤ _
  split <;> omega

/-- what Mend does -/
def mendP (D : Dv) (h c i s : Nat) : Option Nat × Dv × Nat :=
  match right D i s, right D (i + h) s with
  | true, true => (some 0, D, c)
  | false, false => (none, D, c)
  | true, false => (some 1, D.put ((i + h : Nat) : Int) ((D.read i).getD []), c + 1)
  | false, true => (some 1, D.put i ((D.read ((i + h : Nat) : Int)).getD []), c + 1)
theorem right_read {D : Dv} {j : Nat} {s : Nat} (h : right D j s = true) : ∃ l, D.read j = some l := by
  unfold right at h
  cases hr : D.read j with
  | none => rw [hr] at h; cases h
  | some l => exact ⟨l, rfl⟩
theorem ses_mend {bs : List Addr} {w0 : World} {n : Nat} {m : Mp} {D : Dv} {p h c : Nat} (i s : Nat) (w : World) (S : Ses w0 w n m D p h c) (hB : Fv w0 bs) (hi : i < h) (hn : n < 90000) (hc : D.calls < 1000000) (hc2 : c < 1000000) :
    Calls Tryd.prog 37 #[ptr p, Rf i s] w fun e w' => (match (mendP D h c i s).1 with
      | some k => e = .returned (.tuple #[.int .i64 k, .nilIface])
      | none => ∃ a, bs[6]? = some a ∧ e = .returned (.tuple #[.int .i64 0, ev a])) ∧ Ses w0 w' (n + 1) m (mendP D h c i s).2.1 p h (mendP D h c i s).2.2 ∧ Turn (all w0 m p) w w' := by
  have hfin : ∀ r D' c', Ok D' → ∀ e w', MendTo bs w w0.heap.size (w0.heap.size + 5) n m p h r D' c' e w' → (match r with
      | some k => e = .returned (.tuple #[.int .i64 k, .nilIface])
      | none => ∃ a, bs[6]? = some a ∧ e = .returned (.tuple #[.int .i64 0, ev a])) ∧ Ses w0 w' (n + 1) m D' p h c' ∧ Turn (all w0 m p) w w' := by
    rintro r D' c' ok e w' ⟨h1, k1, t1⟩
    exact ⟨h1, S.step k1 t1 ok, t1⟩
  have hB' := S.bs hB
  unfold mendP
  cases r1 : right D i s <;> cases r2 : right D (i + h) s
  · exact (mend_none bs _ _ n m D p h c i s w S.k hB' hi S.bt r1 r2).mono (hfin _ _ _ S.ok)
  · obtain ⟨l, hl⟩ := right_read r2
    rw [hl]
    have := S.ok.read hl
    exact (mend_second bs _ _ n m D p h c i s w S.k hB' hi S.bt r1 r2 hl hn hc hc2).mono (hfin _ _ _ (S.ok.put (l := l) (S.ok.read hl)))
  · obtain ⟨l, hl⟩ := right_read r1
    rw [hl]
    exact (mend_first bs _ _ n m D p h c i s w S.k hB' hi S.bt r1 r2 hl hn hc hc2).mono (hfin _ _ _ (S.ok.put (l := l) (S.ok.read hl)))
  · exact (mend_both bs _ _ n m D p h c i s w S.k hB' hi S.bt r1 r2).mono (hfin _ _ _ S.ok)

/-- a word with a bit laid on -/
theorem or_u32 (a : Int) (k : Nat) (hk : 0 < k) (hk2 : k < 4294967296) : ∃ t : Nat, bits .or .u32 a (k : Int) = (t : Int) ∧ t ≠ 0 ∧ t < 4294967296 := by
  have e : (BitVec.ofInt 32 (k : Int)).toNat = k := by
    rw [BitVec.toNat_ofInt]; omega
  have hlt := (BitVec.ofInt 32 a ||| BitVec.ofInt 32 (k : Int)).isLt
  refine ⟨(BitVec.ofInt 32 a ||| BitVec.ofInt 32 (k : Int)).toNat, ?_, ?_, by omega⟩
  · show IntKind.u32.wrap ((BitVec.ofInt 32 a ||| BitVec.ofInt 32 (k : Int)).toNat : Int) = _
    generalize (BitVec.ofInt 32 a ||| BitVec.ofInt 32 (k : Int)).toNat = x at hlt ⊢
    rw [IntKind.wrap_u32]
    omega
  · rw [BitVec.toNat_or, e]
    have := Nat.right_le_or (n := (BitVec.ofInt 32 a).toNat) (m := k)
    omega

theorem geo_w (lo d n : Nat) (m : Mp) (D : Dv) (p h c : Nat) (w : World) (k : PAt w lo d n m D p h c) :
    Calls Tryd.prog 40 #[ptr p] w fun e w' => e = .returned (.agg #[.int .i64 D.blocks, .int .i64 h]) ∧ Below w.heap.size w w' := by
  have bx := (Below.refl w.heap.size w).alloc (Nat.le_refl _) (.cells #[.int .i64 0, .int .i64 0] 67)
  have kx := k.below bx
  obtain ⟨c0, c1, c2, c3, f3⟩ := kx.c
  go_enter Tryd.func40, Tryd.ntmps40
  go_wp2
  refine bodyPost_ret (v := .agg #[.int .i64 D.blocks, .int .i64 h]) (by simp [results, Tryd.results40, go_sem]) rfl ⟨rfl, (Below.refl w.heap.size w).alloc (Nat.le_refl _) _⟩
/-- a place that is none -/
theorem write_none (bs : List Addr) (lo d n : Nat) (m : Mp) (D : Dv) (p h c : Nat) (i : Nat) (b : Value) (w : World) (k : PAt w lo d n m D p h c) (hB : Fv w bs) (hi : h ≤ i) (hf : Fits (i : Int)) :
    Calls Tryd.prog 30 #[ptr p, .int .i64 i, b] w fun e w' => ∃ a, bs[2]? = some a ∧ e = .returned (.tuple #[Rf 0 0, ev a]) ∧ Below w.heap.size w w' := by
  have hd : decide (0 ≤ (i : Int) ∧ (i : Int) < h) = false := by rw [decide_eq_false_iff_not]; omega
  have bx := (Below.refl w.heap.size w).alloc (Nat.le_refl _) (.cells #[.int .i64 0, .int .u32 0] 31)
  have kx := k.below bx
  obtain ⟨aR, haR, hAR⟩ := (hB.below bx).2.2 2 _ (by decide) rfl
  have hA1 := hAR.1
  clear hAR
  go_enter Tryd.func30, Tryd.ntmps30
  go_wp2_with fail
  refine (is_w lo d n m D p h c i _ kx hf).mono ?_
  rintro e w' ⟨rfl, rfl⟩
  rw [hd]
  clear kx k
  go_wp2_with fail
  go_region
  go_wp2
  refine bodyPost_ret (v := .tuple #[Rf 0 0, ev aR]) (by simp [results, Tryd.results30, go_sem]) rfl ⟨aR, haR, rfl, below_drewN bx 1⟩
theorem read_bad (bs : List Addr) (lo d n : Nat) (m : Mp) (D : Dv) (p h c : Nat) (i : Int) (s : Int) (w : World) (k : PAt w lo d n m D p h c) (hB : Fv w bs) (hi : i < 0) (hf : Fits i) :
    Calls Tryd.prog 34 #[ptr p, .agg #[.int .i64 i, .int .u32 s]] w fun e w' => ∃ a, bs[2]? = some a ∧ e = .returned (.tuple #[.slice none 0 0, ev a]) ∧ Below w.heap.size w w' := by
  have hd : decide (0 ≤ i ∧ i < h) = false := by rw [decide_eq_false_iff_not]; omega
  have bx := (Below.refl w.heap.size w).alloc (Nat.le_refl _) (.cells #[.int .i64 i, .int .u32 s] 31)
  have kx := k.below bx
  obtain ⟨q0, q1⟩ := new2 w (.int .i64 i) (.int .u32 s) 31
  obtain ⟨aR, haR, hAR⟩ := (hB.below bx).2.2 2 _ (by decide) rfl
  have hA1 := hAR.1
  clear hAR
  go_enter Tryd.func34, Tryd.ntmps34
  go_wp2_with fail
  refine (is_w lo d n m D p h c i _ kx hf).mono ?_
  rintro e w' ⟨rfl, rfl⟩
  rw [hd]
  clear kx k
  go_wp2
  go_quiet (fail)
  go_wp2
  refine bodyPost_ret (v := .tuple #[.slice none 0 0, ev aR]) (by simp [results, Tryd.results34, go_sem]) rfl ⟨aR, haR, rfl, below_drewN bx _⟩
end Go.Proofs.YtjecnjgngahmfaaDoor.PairW
