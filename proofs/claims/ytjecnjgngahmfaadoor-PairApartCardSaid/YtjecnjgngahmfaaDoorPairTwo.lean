/- Plain facts: two pairs written one behind the other, and flushed. -/
import Derived.Test.YtjecnjgngahmfaaDoorPairHalf
namespace Go.Proofs.YtjecnjgngahmfaaDoor.PairW
open Go Go.RowKit Go.Maps Go.Proofs.YtjecnjgngahmfaaDoor.Mem Go.Proofs.YtjecnjgngahmfaaDoor.MapsW Go.Proofs.YtjecnjgngahmfaaDoor.SeeW Go.Proofs.YtjecnjgngahmfaaDoor.DevW
set_option linter.unusedVariables false

def two (n m : Nat) (A B : List Nat) : Dv := put2 (put2 (Dv.new 320) 80 n A) 80 m B
/-- what is at a block -/
def at2 (n m : Nat) (A B : List Nat) (j : Int) : List Nat := if j = m ∨ j = (m : Int) + 80 then B else if j = n ∨ j = (n : Int) + 80 then A else Crc.pad []
theorem two_pe (n m : Nat) (A B : List Nat) (j : Int) : (two n m A B).pe j = if j = m ∨ j = (m : Int) + 80 then some B else if j = n ∨ j = (n : Int) + 80 then some A else none := by
  unfold two
  rw [put2_pe _ _ _ _ (by decide), put2_pe _ _ _ _ (by decide)]
  simp only [Int.natCast_add, Int.cast_ofNat_Int]
  rfl
theorem two_kept (n m : Nat) (A B : List Nat) (j : Int) : keptOf (two n m A B).flush j = at2 n m A B j := by
  have e : (two n m A B).flush.fl j = if ((two n m A B).pe j).isSome then (two n m A B).pe j else none := rfl
  unfold keptOf
  rw [e, two_pe]
  unfold at2
  split
  · rfl
  · split
    · rfl
    · rfl
theorem two_fi (n m : Nat) (A B : List Nat) (j : Int) : (two n m A B).flush.fi j = false := by
  show (if ((two n m A B).pe j).isSome then false else false) = false
  split <;> rfl
theorem two_fa (n m : Nat) (A B : List Nat) (j : Int) : (two n m A B).flush.fa j = false := by
  show (if ((two n m A B).pe j).isSome then false else false) = false
  split <;> rfl
theorem two_read (n m : Nat) (A B : List Nat) (j : Int) : (two n m A B).flush.read j = some (at2 n m A B j) := by
  rw [read_flushed rfl (two_fi n m A B j), two_kept]
theorem two_np (n m : Nat) (A B : List Nat) (hn : n < 20) (hm : m < 20) (hne : n ≠ m) : (two n m A B).np = 4 := by
  have e1 : ∀ (D : Dv) (i : Int) (l : List Nat), D.pe i = none → (D.put i l).np = D.np + 1 := fun D i l h => by
    show (if (D.pe i).isSome then D.np else D.np + 1) = _
    rw [h]; rfl
  have e2 : ∀ (D : Dv) (i j : Int) (l : List Nat), j ≠ i → D.pe j = none → (D.put i l).pe j = none := fun D i j l h h2 => (upd_other _ _ h).trans h2
  have e0 : ∀ j, (Dv.new 320).pe j = none := fun _ => rfl
  unfold two put2
  rw [e1, e1, e1, e1]
  · rfl
  · exact e0 _
  · exact e2 _ _ _ _ (by omega) (e0 _)
  · exact e2 _ _ _ _ (by omega) (e2 _ _ _ _ (by omega) (e0 _))
  · exact e2 _ _ _ _ (by omega) (e2 _ _ _ _ (by omega) (e2 _ _ _ _ (by omega) (e0 _)))
theorem two_np_same (n m : Nat) (A B : List Nat) (h : n = m) : (two n m A B).np = 2 := by
  subst h
  have e1 : ∀ (D : Dv) (i : Int) (l : List Nat), D.pe i = none → (D.put i l).np = D.np + 1 := fun D i l h => by
    show (if (D.pe i).isSome then D.np else D.np + 1) = _
    rw [h]; rfl
  have e3 : ∀ (D : Dv) (i : Int) (l l' : List Nat), D.pe i = some l' → (D.put i l).np = D.np := fun D i l l' h => by
    show (if (D.pe i).isSome then D.np else D.np + 1) = _
    rw [h]; rfl
  have e2 : ∀ (D : Dv) (i j : Int) (l : List Nat) (o : Option (List Nat)), j ≠ i → D.pe j = o → (D.put i l).pe j = o := fun D i j l o h h2 => (upd_other _ _ h).trans h2
  have e4 : ∀ (D : Dv) (i : Int) (l : List Nat), (D.put i l).pe i = some l := fun D i l => upd_same _ _ _
  have e0 : ∀ j, (Dv.new 320).pe j = none := fun _ => rfl
  unfold two put2
  rw [e3 _ _ _ A, e3 _ _ _ A, e1, e1]
  · rfl
  · exact e0 _
  · exact e2 _ _ _ _ _ (by omega) (e0 _)
  · exact e2 _ _ _ _ _ (by omega) (e4 _ _ _)
  · exact e2 _ _ _ _ _ (by omega) (e4 _ _ _)
theorem two_np_le (n m : Nat) (A B : List Nat) (hn : n < 20) (hm : m < 20) : (two n m A B).np ≤ 4 := by
  by_cases h : n = m
  · rw [two_np_same n m A B h]; omega
  · rw [two_np n m A B hn hm h]; omega
theorem two_sum (n m : Nat) (A B : List Nat) (i s c : Nat) (hi : at2 n m A B ((i + 80 : Nat) : Int) = at2 n m A B (i : Int)) : readP (two n m A B).flush 80 c i s = (if Crc.sum (at2 n m A B (i : Int)) = s then some (at2 n m A B (i : Int)) else none, (two n m A B).flush, c) := by
  by_cases hs : Crc.sum (at2 n m A B (i : Int)) = s
  · rw [if_pos hs]
    exact readP_first (two_read n m A B i) hs
  · rw [if_neg hs, readP_second (fun l hl => by cases hl.symm.trans (two_read n m A B i); exact hs)]
    unfold second
    rw [two_read, hi]
    exact if_neg hs
theorem at2_none (n m : Nat) (A B : List Nat) (i : Nat) (h1 : ¬ n = i) (h2 : ¬ i = n + 80) (h3 : ¬ m = i) (h4 : ¬ i = m + 80) : at2 n m A B (i : Int) = Crc.pad [] := by unfold at2; rw [if_neg (by omega), if_neg (by omega)]
theorem at2_m (n m : Nat) (A B : List Nat) : at2 n m A B (m : Int) = B := by unfold at2; rw [if_pos (.inl rfl)]
theorem at2_m2 (n m : Nat) (A B : List Nat) : at2 n m A B ((m + 80 : Nat) : Int) = B := by unfold at2; rw [if_pos (.inr (by omega))]
theorem at2_n (n m : Nat) (A B : List Nat) (hn : n < 20) (hm : m < 20) (hne : n ≠ m) : at2 n m A B (n : Int) = A := by unfold at2; rw [if_neg (by omega), if_pos (.inl rfl)]
theorem at2_n2 (n m : Nat) (A B : List Nat) (hn : n < 20) (hm : m < 20) (hne : n ≠ m) : at2 n m A B ((n + 80 : Nat) : Int) = A := by unfold at2; rw [if_neg (by omega), if_pos (.inr (by omega))]
end Go.Proofs.YtjecnjgngahmfaaDoor.PairW
