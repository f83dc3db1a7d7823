/- KeepOrder: what its walk leans on. -/
import Derived.Test.YtcaocebgkahbmaaDoorKeepOrderP4
namespace Go.Proofs.YtcaocebgkahbmaaDoor.KeepW
open Go Go.RowKit Go.Maps Go.Proofs.YtcaocebgkahbmaaDoor.Mem Go.Proofs.YtcaocebgkahbmaaDoor.MapsW Go.Proofs.YtcaocebgkahbmaaDoor.DevG Go.Proofs.YtcaocebgkahbmaaDoor.Text Go.Proofs.YtcaocebgkahbmaaDoor.KeepP Go.Proofs.YtcaocebgkahbmaaDoor.RootW
set_option linter.unusedVariables false
set_option maxRecDepth 100000

theorem ev_of {w : World} (h : Err.All w [1, 0, 6, 5, 4, 2, 3]) : ∃ bs, Ev w w.heap.size bs six := by
  obtain ⟨bs, h1, h2, h3⟩ := h
  have h1' : bs.length = 7 := h1
  refine ⟨⟨0, 0, none⟩ :: bs, fun i hi g hg => ?_, fun i hi j hj e => ?_⟩
  · have : ∃ j, i = j + 1 ∧ [1, 0, 6, 5, 4, 2, 3][j]? = some g := by
      simp only [six, List.mem_cons, List.not_mem_nil, or_false] at hi
      rcases hi with rfl | rfl | rfl | rfl | rfl | rfl
      all_goals exact ⟨_, rfl, hg⟩
    obtain ⟨j, rfl, hj⟩ := this
    obtain ⟨a, ha, hA⟩ := h3 j g hj
    exact ⟨a, ha, hA, World.block_lt_of_cell? w ⟨g, 0, none⟩ hA.1, hA.lt⟩
  · simp only [six, List.mem_cons, List.not_mem_nil, or_false] at hi hj
    obtain ⟨i', rfl⟩ : ∃ i', i = i' + 1 := ⟨i - 1, by omega⟩
    obtain ⟨j', rfl⟩ : ∃ j', j = j' + 1 := ⟨j - 1, by omega⟩
    have e' : bs[i']? = bs[j']? := e
    have := (List.getElem?_inj (by omega) h2).1 e'
    omega
theorem bufd (w : World) (x y : Nat) : Nums .u8 (w.alloc (.cells #[.int .u8 (x : Int), .int .u8 (y : Int)] 5)) (some ⟨w.heap.size, 0, none⟩) 2 2 [x, y] := by
  refine ⟨rfl, Nat.le_refl _, by decide, (fun e => nomatch e), fun j u hj => ⟨_, _, rfl, ?_⟩⟩
  match j, hj with
  | 0, hj => cases hj; rw [World.cell?, heap_alloc_new]; rfl
  | 1, hj => cases hj; rw [World.cell?, heap_alloc_new]; rfl
/-- the same keys, the same list -/
theorem SKeys.unique {F : List UInt8 → Option (List Nat)} {a b : List (List UInt8)} (ha : SKeys F a) (hb : SKeys F b) : a = b := by
  have hn : ∀ {l : List (List UInt8)}, l.Pairwise (· < ·) → l.Nodup := fun h => h.imp fun {a b} hlt e => by subst e; exact List.lt_irrefl _ hlt
  refine List.Perm.eq_of_pairwise (le := fun a b => a < b) (fun a b _ _ h1 h2 => absurd h2 (List.lt_asymm h1)) ha.rise hb.rise ?_
  exact (List.perm_ext_iff_of_nodup (hn ha.rise) (hn hb.rise)).2 fun i => by rw [ha.mem, hb.mem]
theorem sel_all (l : List (List UInt8)) : l.filter (sel [] []) = l := by
  rw [List.filter_eq_self]
  intro a _
  simp [sel]
theorem sel_lt {l : List (List UInt8)} (h : l.Pairwise (· < ·)) {k : Nat} (hk : k < l.length) (h0 : l[k] ≠ []) : (l.filter (sel [] l[k])).length = k := by
  have : l.filter (sel [] l[k]) = l.filter (fun s => decide (s < l[k])) := by
    refine List.filter_congr fun s _ => ?_
    simp [sel, h0]
  rw [this, KeepP.filter_lt h hk, List.length_take]
  omega
theorem sel_ge {l : List (List UInt8)} (h : l.Pairwise (· < ·)) {k : Nat} (hk : k < l.length) : (l.filter (sel l[k] [])).length = l.length - k := by
  have : l.filter (sel l[k] []) = l.filter (fun s => !decide (s < l[k])) := by
    refine List.filter_congr fun s _ => ?_
    simp [sel]
  rw [this, KeepP.filter_ge h hk, List.length_drop]
/-- as numbers, bytes are in the same order -/
theorem lt_nat : ∀ (x y : List UInt8), RecW.lt (KeepP.nat x) (KeepP.nat y) = decide (x < y)
  | [], [] => by decide
  | [], b :: y => by
    symm
    rw [show decide ([] < b :: y) = true from decide_eq_true (List.nil_lt_cons _ _)]
    simp [KeepP.nat, RecW.lt]
  | a :: x, [] => by
    symm
    rw [show decide (a :: x < []) = false from decide_eq_false (List.not_lt_nil _)]
    simp [KeepP.nat, RecW.lt]
  | a :: x, b :: y => by
    have ih := lt_nat x y
    show RecW.lt (a.toNat :: KeepP.nat x) (b.toNat :: KeepP.nat y) = _
    unfold RecW.lt
    rw [ih, Bool.eq_iff_iff]
    simp only [List.cons_lt_cons_iff, decide_eq_true_eq, Bool.or_eq_true, Bool.and_eq_true, beq_iff_eq, UInt8.lt_iff_toNat_lt, ← UInt8.toNat_inj]
/-- what was put -/
structure Inv (st : Nat) (F : List UInt8 → Option (List Nat)) (j : Nat) : Prop where
  small : Small F
  mem : ∀ s, (F s).isSome = true ↔ s ∈ ks st j
theorem Inv.none (st : Nat) : Inv st (fun _ => Option.none) 0 := ⟨Small.none, fun s => by simp [ks]⟩
theorem key_len (c : Nat) : 1 ≤ (KeepP.key c).length ∧ (KeepP.key c).length ≤ 2 := by unfold KeepP.key; split <;> simp
theorem Inv.put {st j : Nat} {F : List UInt8 → Option (List Nat)} (h : Inv st F j) (hst : st ∈ steps) (hj : j < 41) (x y : Nat) :
    F (KeepP.key (j * st % 41)) = Option.none ∧ Inv st (updS (updS F (KeepP.key (j * st % 41)) (some [x])) (KeepP.key (j * st % 41)) (some [y])) (j + 1) := by
  have hk := key_len (j * st % 41)
  refine ⟨?_, (h.small.upd hk.1 (by simp)).upd hk.1 (by simp), fun s => ?_⟩
  · have := ks_new hst hj
    rw [← h.mem] at this
    cases hF : F (KeepP.key (j * st % 41)) with
    | none => rfl
    | some l => rw [hF] at this; exact absurd rfl this
  · rw [ks_succ, List.mem_append, List.mem_singleton]
    by_cases hs : s = KeepP.key (j * st % 41)
    · subst hs
      rw [updS_same]
      simp
    · rw [updS_other _ _ hs, updS_other _ _ hs, h.mem]
      simp [hs]
end Go.Proofs.YtcaocebgkahbmaaDoor.KeepW
