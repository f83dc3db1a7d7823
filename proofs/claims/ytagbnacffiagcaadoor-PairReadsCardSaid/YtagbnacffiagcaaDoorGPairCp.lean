/- Plain facts: a copy of a pair, whatever was done to it. -/
import Derived.Test.YtagbnacffiagcaaDoorGPairSes
import Derived.Test.YtagbnacffiagcaaDoorGPairMend
namespace Go.Proofs.YtagbnacffiagcaaDoor.PairG
open Go Go.RowKit Go.Maps Go.Proofs.YtagbnacffiagcaaDoor.Mem Go.Proofs.YtagbnacffiagcaaDoor.MapsW Go.Proofs.YtagbnacffiagcaaDoor.SeeW Go.Proofs.YtagbnacffiagcaaDoor.DevG
set_option linter.unusedVariables false
set_option maxRecDepth 100000

/-- a copy of the bytes P: they are pending; or laid, and not faulted; or faulted, and told by the sum -/
def Cp (D : Dv) (q : Int) (P : List Nat) : Prop :=
  D.pe q = some P ∨ (D.pe q = none ∧ D.fa q = false ∧ D.fl q = some P ∧ D.fi q = false) ∨ (D.pe q = none ∧ D.fa q = true ∧ ∀ l, D.read q = some l → Crc.sum l ≠ Crc.sum P)
theorem read_of {D E : Dv} {q : Int} (h1 : E.pe q = D.pe q) (h2 : E.fi q = D.fi q) (h3 : E.fl q = D.fl q) : E.read q = D.read q := by
  unfold Dv.read keptOf
  rw [h1, h2, h3]
theorem Cp.same {D E : Dv} {q : Int} {P : List Nat} (h : Cp D q P) (h1 : E.pe q = D.pe q) (h2 : E.fi q = D.fi q) (h3 : E.fl q = D.fl q) (h4 : E.fa q = D.fa q) : Cp E q P := by
  unfold Cp at *
  rw [read_of h1 h2 h3, h1, h2, h3, h4]
  exact h
theorem Cp.put_same (D : Dv) (q : Int) (P : List Nat) : Cp (D.put q P) q P := .inl (upd_same _ _ _)
theorem Cp.put_other {D : Dv} {q j : Int} {P : List Nat} (h : Cp D q P) (hne : q ≠ j) (l : List Nat) : Cp (D.put j l) q P :=
  h.same (upd_other _ _ hne) rfl rfl rfl
theorem Cp.put_again {D : Dv} {q j : Int} {P : List Nat} (h : Cp D q P) : Cp (D.put j P) q P := by
  by_cases e : q = j
  · subst e; exact Cp.put_same D q P
  · exact h.put_other e P
theorem Cp.flush {D : Dv} {q : Int} {P : List Nat} (h : Cp D q P) : Cp D.flush q P := by
  rcases h with h | ⟨h1, h2, h3, h4⟩ | ⟨h1, h2, h3⟩
  · refine .inr (.inl ⟨rfl, ?_, ?_, ?_⟩)
    · show (if (D.pe q).isSome then false else _) = _; rw [h]; rfl
    · show (if (D.pe q).isSome then D.pe q else _) = _; rw [h]; rfl
    · show (if (D.pe q).isSome then false else _) = _; rw [h]; rfl
  · refine .inr (.inl ⟨rfl, ?_, ?_, ?_⟩)
    · show (if (D.pe q).isSome then false else _) = _; rw [h1]; exact h2
    · show (if (D.pe q).isSome then D.pe q else _) = _; rw [h1]; exact h3
    · show (if (D.pe q).isSome then false else _) = _; rw [h1]; exact h4
  · refine .inr (.inr ⟨rfl, ?_, ?_⟩)
    · show (if (D.pe q).isSome then false else _) = _; rw [h1]; exact h2
    · rw [read_of (D := D) h1.symm (by show (if (D.pe q).isSome then false else _) = _; rw [h1]; rfl) (by show (if (D.pe q).isSome then D.pe q else _) = _; rw [h1]; rfl)]
      exact h3
theorem may_of {D : Dv} {i : Int} (h : D.may i = true) : D.pe i = none ∧ D.fa i = false := by
  unfold Dv.may at h
  rw [Bool.and_eq_true, Bool.and_eq_true] at h
  refine ⟨?_, by simpa using h.2.2⟩
  cases hp : D.pe i with
  | none => rfl
  | some l => rw [hp] at h; simp at h
theorem Cp.spoil {D : Dv} {q i : Int} {P : List Nat} (h : Cp D q P) (hP : Blk P) (a t : Nat) (ht : t < 4294967296) : Cp (D.spoil i a t) q P := by
  cases hm : D.mayS i a t with
  | false => rw [spoil_no hm]; exact h
  | true =>
    rw [spoil_yes hm]
    by_cases e : q = i
    · subst e
      unfold Dv.mayS at hm
      rw [Bool.and_eq_true, decide_eq_true_eq] at hm
      obtain ⟨m1, m2, m3⟩ := may_of hm.1, hm.2.1, hm.2.2
      obtain ⟨p1, p2⟩ := m1
      rcases h with h | ⟨h1, h2, h3, h4⟩ | ⟨h1, h2, h3⟩
      · rw [p1] at h; cases h
      · refine .inr (.inr ⟨h1, upd_same _ _ _, fun l hl => ?_⟩)
        have hx : (({ D with fl := upd D.fl q (some (Crc.turned (keptOf D q) a t)) } : Dv).fault q).read q = some (Crc.turned P a t) := by
          unfold Dv.read Dv.fault
          show (match D.pe q with | some l => some l | none => if D.fi q then none else some ((upd D.fl q (some _) q).getD _)) = _
          rw [h1]
          simp only
          rw [h4, upd_same, kept_of h3]
          rfl
        cases hl.symm.trans hx
        exact Crc.turned_sum_ne hP.1 (by rw [hP.2]; omega) m3.2 ht
      · rw [p2] at h2; cases h2
    · exact h.same rfl rfl (upd_other _ _ e) (upd_other _ _ e)
theorem Cp.fail {D : Dv} {q i : Int} {P : List Nat} (h : Cp D q P) : Cp (D.fail i) q P := by
  cases hm : D.may i with
  | false =>
    have : D.fail i = D := by unfold Dv.fail; rw [hm]; rfl
    rw [this]; exact h
  | true =>
    have : D.fail i = { D with fi := upd D.fi i true }.fault i := by unfold Dv.fail; rw [hm]; rfl
    rw [this]
    by_cases e : q = i
    · subst e
      obtain ⟨p1, p2⟩ := may_of hm
      refine .inr (.inr ⟨p1, upd_same _ _ _, fun l hl => ?_⟩)
      have hx := read_failed (D := { D with fi := upd D.fi q true }.fault q) (j := q) p1 (upd_same D.fi q true)
      cases hl.symm.trans hx
    · exact h.same rfl (upd_other _ _ e) rfl (upd_other _ _ e)
/-- a copy is right just if its bytes are those -/
theorem Cp.right {D : Dv} {q : Nat} {P : List Nat} (h : Cp D q P) : right D q (Crc.sum P) = decide (D.read q = some P) := by
  unfold PairG.right
  rcases h with h | ⟨h1, h2, h3, h4⟩ | ⟨h1, h2, h3⟩
  · rw [read_pending h]; simp
  · rw [read_flushed h1 h4, kept_of h3]; simp
  · cases hr : D.read q with
    | none => rfl
    | some l =>
      have := h3 l hr
      show decide (Crc.sum l = Crc.sum P) = _
      rw [decide_eq_false this]
      symm
      rw [decide_eq_false_iff_not]
      intro e
      cases e
      exact this rfl

/-- what a pair is: both copies -/
def Pr (D : Dv) (i : Nat) (P : List Nat) : Prop := Blk P ∧ Cp D i P ∧ Cp D ((i + 75 : Nat) : Int) P
theorem Pr.both (D : Dv) (i : Nat) {P : List Nat} (hP : Blk P) : Pr (put2 D 75 i P) i P :=
  ⟨hP, (Cp.put_same D i P).put_again, Cp.put_same _ _ P⟩
theorem Pr.both_other {D : Dv} {i j : Nat} {P : List Nat} (h : Pr D i P) (hi : i < 75) (hj : j < 75) (hne : i ≠ j) (l : List Nat) : Pr (put2 D 75 j l) i P := by
  have n1 : (i : Int) ≠ (j : Int) := by omega
  have n2 : (i : Int) ≠ ((j + 75 : Nat) : Int) := by omega
  have n3 : ((i + 75 : Nat) : Int) ≠ (j : Int) := by omega
  have n4 : ((i + 75 : Nat) : Int) ≠ ((j + 75 : Nat) : Int) := by omega
  exact ⟨h.1, (h.2.1.put_other n1 l).put_other n2 l, (h.2.2.put_other n3 l).put_other n4 l⟩
theorem Pr.flush {D : Dv} {i : Nat} {P : List Nat} (h : Pr D i P) : Pr D.flush i P := ⟨h.1, h.2.1.flush, h.2.2.flush⟩
theorem Pr.spoil {D : Dv} {i : Nat} {P : List Nat} (h : Pr D i P) (j : Int) (a t : Nat) (ht : t < 4294967296) : Pr (D.spoil j a t) i P := ⟨h.1, h.2.1.spoil h.1 a t ht, h.2.2.spoil h.1 a t ht⟩
theorem Pr.fail {D : Dv} {i : Nat} {P : List Nat} (h : Pr D i P) (j : Int) : Pr (D.fail j) i P := ⟨h.1, h.2.1.fail, h.2.2.fail⟩
theorem Pr.put {D : Dv} {i j : Nat} {P Q : List Nat} (h : Pr D i P) (q : Nat) (hi : i < 75) (hj : j < 75) (hq : q = j ∨ q = j + 75) (hQ : i = j → P = Q) : Pr (D.put (q : Int) Q) i P := by
  by_cases e : i = j
  · obtain rfl := hQ e
    exact ⟨h.1, h.2.1.put_again, h.2.2.put_again⟩
  · have n1 : (i : Int) ≠ (q : Int) := by omega
    have n2 : ((i + 75 : Nat) : Int) ≠ (q : Int) := by omega
    exact ⟨h.1, h.2.1.put_other n1 Q, h.2.2.put_other n2 Q⟩
/-- what is read of a pair: what was written last; or neither copy has it -/
def rd (D : Dv) (i : Nat) (P : List Nat) : Bool := decide (D.read (i : Int) = some P)
theorem Pr.readP {D : Dv} {i c : Nat} {P : List Nat} (h : Pr D i P) :
    readP D 75 c i (Crc.sum P) = if rd D i P then (some P, D, c) else if rd D (i + 75) P then (some P, D.put i P, c + 1) else (none, D, c) := by
  obtain ⟨h0, h1, h2⟩ := h
  have r1 := h1.right
  have r2 := h2.right
  unfold rd
  by_cases e : D.read (i : Int) = some P
  · rw [decide_eq_true e, readP_first e rfl]; rfl
  · rw [decide_eq_false e] at r1 ⊢
    have hne : ∀ l, D.read (i : Int) = some l → Crc.sum l ≠ Crc.sum P := by
      intro l hl
      unfold PairG.right at r1
      rw [hl] at r1
      exact of_decide_eq_false r1
    rw [readP_second hne]
    unfold second
    by_cases e2 : D.read ((i + 75 : Nat) : Int) = some P
    · rw [decide_eq_true e2, e2]
      simp
    · rw [decide_eq_false e2] at r2 ⊢
      unfold PairG.right at r2
      cases hr : D.read ((i + 75 : Nat) : Int) with
      | none => simp
      | some l =>
        rw [hr] at r2
        simp only
        rw [if_neg (of_decide_eq_false r2)]
        simp

/-- what Mend does -/
def mendP (D : Dv) (h c i s : Nat) : Option Nat × Dv × Nat :=
  match right D i s, right D (i + h) s with
  | true, true => (some 0, D, c)
  | false, false => (none, D, c)
  | true, false => (some 1, D.put ((i + h : Nat) : Int) ((D.read i).getD []), c + 1)
  | false, true => (some 1, D.put i ((D.read ((i + h : Nat) : Int)).getD []), c + 1)
theorem right_read {D : Dv} {j : Nat} {s : Nat} (h : right D j s = true) : ∃ l, D.read j = some l := by
  unfold right at h
  cases hr : D.read j with
  | none => rw [hr] at h; cases h
  | some l => exact ⟨l, rfl⟩
theorem ses_mend {bs : List Addr} {w0 : World} {n : Nat} {m : Mp} {D : Dv} {p h c : Nat} (i s : Nat) (w : World) (S : Ses w0 w n m D p h c) (hB : Ev w0 w0.heap.size bs five) (hi : i < h) (hn : n < 90000) (hc : D.calls < 1000000) (hc2 : c < 1000000) :
    Calls Tryd.prog 22 #[ptr p, Rf i s] w fun e w' => (match (mendP D h c i s).1 with
      | some k => e = .returned (.tuple #[.int .i64 k, .nilIface])
      | none => ∃ a, bs[6]? = some a ∧ e = .returned (.tuple #[.int .i64 0, ev a])) ∧ Ses w0 w' (n + 1) m (mendP D h c i s).2.1 p h (mendP D h c i s).2.2 ∧ Turn (all w0 m p) w w' := by
  have hfin : ∀ r D' c', Ok D' → ∀ e w', MendTo bs w w0.heap.size (w0.heap.size + 5) n m p h r D' c' e w' → (match r with
      | some k => e = .returned (.tuple #[.int .i64 k, .nilIface])
      | none => ∃ a, bs[6]? = some a ∧ e = .returned (.tuple #[.int .i64 0, ev a])) ∧ Ses w0 w' (n + 1) m D' p h c' ∧ Turn (all w0 m p) w w' := by
    rintro r D' c' ok e w' ⟨h1, k1, t1⟩
    exact ⟨h1, S.step k1 t1 ok, t1⟩
  have hB' := S.bs hB
  unfold mendP
  cases r1 : right D i s <;> cases r2 : right D (i + h) s
  · exact (mend_none bs _ _ n m D p h c i s w S.k hB' hi S.bt r1 r2).mono (hfin _ _ _ S.ok)
  · obtain ⟨l, hl⟩ := right_read r2
    rw [hl]
    have := S.ok.read hl
    exact (mend_second bs _ _ n m D p h c i s w S.k hB' hi S.bt r1 r2 hl hn hc hc2).mono (hfin _ _ _ (S.ok.put (l := l) (S.ok.read hl)))
  · obtain ⟨l, hl⟩ := right_read r1
    rw [hl]
    exact (mend_first bs _ _ n m D p h c i s w S.k hB' hi S.bt r1 r2 hl hn hc hc2).mono (hfin _ _ _ (S.ok.put (l := l) (S.ok.read hl)))
  · exact (mend_both bs _ _ n m D p h c i s w S.k hB' hi S.bt r1 r2).mono (hfin _ _ _ S.ok)
theorem Pr.mendP {D : Dv} {i c : Nat} {P : List Nat} (h : Pr D i P) :
    mendP D 75 c i (Crc.sum P) = if rd D i P then (if rd D (i + 75) P then (some 0, D, c) else (some 1, D.put ((i + 75 : Nat) : Int) P, c + 1)) else (if rd D (i + 75) P then (some 1, D.put i P, c + 1) else (none, D, c)) := by
  obtain ⟨h0, h1, h2⟩ := h
  have r1 := h1.right
  have r2 := h2.right
  unfold PairG.mendP
  rw [r1, r2]
  unfold rd
  by_cases e : D.read (i : Int) = some P <;> by_cases e2 : D.read ((i + 75 : Nat) : Int) = some P
  · rw [decide_eq_true e, decide_eq_true e2]; rfl
  · rw [decide_eq_true e, decide_eq_false e2, e]; rfl
  · rw [decide_eq_false e, decide_eq_true e2, e2]; rfl
  · rw [decide_eq_false e, decide_eq_false e2]; rfl
theorem put_np (F : Dv) (i : Int) (P : List Nat) : (F.put i P).np ≤ F.np + 1 := by
  show (if (F.pe i).isSome then F.np else F.np + 1) ≤ _
  split <;> omega
/-- what was put is read -/
theorem rd_put (D : Dv) (i : Nat) (P : List Nat) : rd (D.put i P) i P = true := decide_eq_true (read_pending (upd_same _ _ _))
theorem rd_put_other (D : Dv) {i j : Nat} (P : List Nat) (h : i ≠ j) : rd (D.put j P) i P = rd D i P := by
  unfold rd
  rw [read_of (D := D) (E := D.put j P) (q := i) (upd_other _ _ (by omega)) rfl rfl]
end Go.Proofs.YtagbnacffiagcaaDoor.PairG
