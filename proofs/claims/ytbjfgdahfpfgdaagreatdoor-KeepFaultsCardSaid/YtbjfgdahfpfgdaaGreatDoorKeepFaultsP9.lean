/- The keys of a map of ints, rising: slices.Sorted of maps.Keys; A slice of integers; slices.Sort and slices.Compact of a row of integers of one's own; Maps of rows and of places: stores, deletes, sizes; The keys of a store's maps; One copy of a pair read; A pair read where the first copy is not right; A pair written; pairs opened. -/
import Derived.Test.YtbjfgdahfpfgdaaGreatDoorShelfN
import Derived.Test.YtbjfgdahfpfgdaaGreatDoorKeepFaultsP8
import Derived.Test.YtbjfgdahfpfgdaaGreatDoorProg
import Derived.Test.YtbjfgdahfpfgdaaGreatDoorKeepFaultsP1
import Derived.Test.YtbjfgdahfpfgdaaGreatDoorShelf
import Derived.Test.YtbjfgdahfpfgdaaGreatDoorShelfG
import Derived.Lib.OwnBridge
import Derived.Lib.SlKeysI
import Derived.Test.YtbjfgdahfpfgdaaGreatDoorKeepFaultsP6
import Derived.Test.YtbjfgdahfpfgdaaGreatDoorKeepFaultsP7
import Derived.Sort.KeysCollected
import Derived.Test.YtbjfgdahfpfgdaaGreatDoorKeepFaultsP4
import Derived.Test.YtbjfgdahfpfgdaaGreatDoorKeepFaultsP3
import Derived.LaidEql
import Derived.LaidEqlPtr
import Derived.Deep.RegionHeld3
namespace Go.Proofs.YtbjfgdahfpfgdaaGreatDoor.MapsW
open Go Go.RowKit Go.Maps Go.Sort Go.Shelf Go.Proofs Go.Proofs.YtbjfgdahfpfgdaaGreatDoor.Mem
set_option linter.unusedVariables false
set_option maxRecDepth 100000

theorem nkeys_w (mb : Option Nat) (w : World) : Calls Tryz.prog 84 #[.map mb] w fun e w' => e = .returned (.func (.func 117) #[] #[.pointer (some ⟨w.heap.size, 0, none⟩)]) ∧ w' = w.alloc (.cells #[.map mb] 145) :=
  (callsIn_wide (n := 5)).1 (AnyZI.keys_in Tryz.keysN Fence.wide 5 trivial rfl mb w)
theorem nsorted_w {H : Type} (b nn Bm : Nat) (D0 : DataW H) (R : Value → Option (DataW H × List MemPlace)) (w : World) (hBm : Bm < w.heap.size) (hm : w.cell? ⟨Bm, 0, none⟩ = some (.map (some b))) (hown : w.ownsMap Tryz.prog 3 R b nn D0) (hmax : Maps.size D0 ≤ 1000000) :
    Calls Tryz.prog 62 #[.func (.func 117) #[] #[.pointer (some ⟨Bm, 0, none⟩)]] w fun e w' => ∃ (v : Value) (ss : List Int), e = .returned v ∧ ss.Perm (intKeys D0) ∧
      w'.ownsRow w.heap.size 3 1 v ss.length ((ss.mergeSort (fun x y => decide (x ≤ y))).map encZ) ∧ (v = .slice none 0 0 ↔ ss = []) ∧ Below w.heap.size w w' := by
  have hseq : SeqGives Fence.wide 2 Tryz.prog 117 #[.pointer (some ⟨Bm, 0, none⟩)] encZ (fun ss => ss.Perm (intKeys D0)) (Maps.size D0) w :=
    AnyZI.keys_gives (ρ := Tryz.keysN_ren) { Tryz.keysN with } Fence.wide _ trivial rfl (by omega) Bm b nn D0 _ hBm hm hown
  have cS := AnyZI.sorted_in Tryz.sortedA Fence.wide 5 trivial trivial trivial trivial rfl (by omega) (sorts_in _) (enters_of Tryz.func78 (by kernel_rfl) rfl) 117 #[.pointer (some ⟨Bm, 0, none⟩)] trivial (enters_of Tryz.func117 (by kernel_rfl) rfl) _ _ (by unfold maxLen; omega) (by omega) _ hseq
  exact callsIn_wide.1 cS
/-- what a map of ints has keys at: rising -/
structure NKeys (F : Int → Bool) (ks : List Int) : Prop where
  rise : ks.Pairwise (· < ·)
  mem : ∀ i, i ∈ ks ↔ F i = true
  fit : ∀ i ∈ ks, Fits i
/-- slices.Sorted of a map's keys -/
theorem nkeys_sorted (b n Bm np : Nat) (F : Int → Bool) (w : World) (hBm : Bm < w.heap.size) (hm : w.cell? ⟨Bm, 0, none⟩ = some (.map (some b))) (h : NumMap w b n F np) (hnp : np ≤ 1000000) :
    Calls Tryz.prog 62 #[.func (.func 117) #[] #[.pointer (some ⟨Bm, 0, none⟩)]] w fun e w' => ∃ (v : Value) (ks : List Int), e = .returned v ∧ NKeys F ks ∧ ks.length = np ∧
      w'.ownsRow w.heap.size 3 1 v ks.length (ks.map fun z => .int .i64 z) ∧ Below w.heap.size w w' := by
  obtain ⟨D, h1, h2, h3⟩ := h
  obtain ⟨k1, k2⟩ := intKeys_is h1
  refine (nsorted_w b n Bm D _ w hBm hm h1 (by omega)).mono ?_
  rintro e w' ⟨v, ss, rfl, hp, ho, _, hb⟩
  have hle : ∀ a b c : Int, decide (a ≤ b) = true → decide (b ≤ c) = true → decide (a ≤ c) = true := fun a b c x y => by
    simp only [decide_eq_true_eq] at *; omega
  have hto : ∀ a b : Int, (decide (a ≤ b) || decide (b ≤ a)) = true := fun a b => by
    simp only [Bool.or_eq_true, decide_eq_true_eq]; omega
  have hs := List.pairwise_mergeSort hle hto ss
  have hpm := List.mergeSort_perm ss (fun x y => decide (x ≤ y))
  have hnd : (ss.mergeSort fun x y => decide (x ≤ y)).Nodup := (hpm.trans hp).nodup_iff.2 k1
  refine ⟨v, ss.mergeSort (fun x y => decide (x ≤ y)), rfl, ⟨?_, fun i => ?_, fun i hi => int_of (intKeys_wf h1 Tryz.underlying3 i ((hpm.trans hp).mem_iff.1 hi))⟩, ?_, ?_, hb⟩
  · refine (hs.and hnd).imp fun {a b} q => ?_
    have := q.1
    simp only [decide_eq_true_eq] at this
    have := q.2
    omega
  · rw [(hpm.trans hp).mem_iff, k2, (h3 i).2]
  · rw [hpm.length_eq, hp.length_eq, ← h2]
    obtain ⟨es, hD, _⟩ := h1.tidy law
    rw [hD]; simp [intKeys, Maps.size]
  · rw [hpm.length_eq]
    exact ho
end Go.Proofs.YtbjfgdahfpfgdaaGreatDoor.MapsW

namespace Go.Proofs.YtbjfgdahfpfgdaaGreatDoor.Ints
open Go Go.RowKit Go.Proofs.YtbjfgdahfpfgdaaGreatDoor.Mem
set_option linter.unusedVariables false
set_option maxRecDepth 100000

def ints (zs : List Int) : List Value := zs.map fun z => .int .i64 z
/-- a slice of integers -/
def Is (w : World) (a : Option Addr) (n cap : Nat) (zs : List Int) : Prop := Row w 1 a n cap (ints zs)
theorem Is.below {w w' : World} {a : Option Addr} {n cap : Nat} {zs : List Int} (h : Is w a n cap zs) (hb : Below w.heap.size w w') : Is w' a n cap zs := Row.below h hb
theorem Is.len {w : World} {a : Option Addr} {n cap : Nat} {zs : List Int} (h : Is w a n cap zs) : zs.length = n := by
  have := h.1; simp [ints] at this; omega
theorem Is.bound {w : World} {a : Option Addr} {n cap : Nat} {zs : List Int} (h : Is w a n cap zs) : n ≤ cap ∧ cap ≤ 9223372036854775807 := by
  have := h.2.2.1; unfold maxLen at this; exact ⟨h.2.1, by omega⟩
theorem Is.at {w : World} {a : Option Addr} {n cap : Nat} {zs : List Int} (h : Is w a n cap zs) {j : Nat} (hj : j < zs.length) :
    ∃ b off, a = some ⟨b, off, none⟩ ∧ w.cell? ⟨b, off + j, none⟩ = some (.int .i64 zs[j]) :=
  h.2.2.2.2 j _ (by simp [ints, hj])
/-- as the row's datum gives them -/
theorem is_of {w : World} {a : Option Addr} {len cap : Nat} {zs : List Int} (h : IsRow .i64 w a len cap zs) :
    ∃ l : List Int, Is w a len cap l ∧ ∀ x ∈ l, (Lit.int .i64 x).wf = true := by
  rcases h with ⟨rfl, rfl, rfl, rfl⟩ | ⟨x, rfl, hl, hm, hz, hc, hw⟩
  · exact ⟨[], ⟨rfl, Nat.le_refl _, Nat.zero_le _, fun _ => rfl, fun j u h => by simp [ints] at h⟩, by simp⟩
  · refine ⟨zs.take len, ⟨?_, hl, hm, fun h => by simp at h, fun j u hj => ?_⟩, ?_⟩
    · simp [ints]; omega
    · have hjl : j < len := by
        have := (List.getElem?_eq_some_iff.1 hj).1
        simp [ints] at this; omega
      have h1 := hc j (by omega)
      obtain ⟨b, off, spot⟩ := x
      have hs : spot = none := by
        have h0 := hc 0 (by omega)
        simpa [Addr.add] using World.cell?_spot h0
      subst hs
      refine ⟨b, off, rfl, ?_⟩
      rw [Addr.add_lit] at h1
      rw [h1]
      have hjz : j < zs.length := by omega
      have hu : u = .int .i64 (zs[j]) := by
        have h2 : (ints (zs.take len))[j]? = some (.int .i64 (zs[j])) := by
          simp [ints, hjl, hjz]
        rw [h2] at hj
        rw [← Option.some.inj hj]
      rw [hu, List.getD_eq_getElem?_getD, List.getElem?_eq_getElem hjz]
      rfl
    · intro y hy
      exact hw y (List.mem_of_mem_take hy)

end Go.Proofs.YtbjfgdahfpfgdaaGreatDoor.Ints

namespace Go.Proofs.YtbjfgdahfpfgdaaGreatDoor.SortW
open Go Go.RowKit Go.Maps Go.Sort Go.Shelf Go.Proofs Go.Proofs.YtbjfgdahfpfgdaaGreatDoor.Mem Go.Proofs.YtbjfgdahfpfgdaaGreatDoor.Ints
set_option linter.unusedVariables false
set_option maxRecDepth 100000

/-- rising, each once -/
def uniq (zs : List Int) : List Int := Lib.compact (zs.mergeSort fun x y => decide (x ≤ y))
theorem keeps_iff {d : Array Int} {j : Nat} (h : Lib.keeps d j = false) : 0 < j ∧ d[j]! = d[j - 1]! := by
  unfold Lib.keeps at h
  simp at h
  exact ⟨by omega, h.2⟩
theorem keeps_ne {d : Array Int} {j : Nat} (h : Lib.keeps d j = true) (hj : 0 < j) : d[j]! ≠ d[j - 1]! := by
  unfold Lib.keeps at h
  simp at h
  intro e
  rcases h with h | h
  · omega
  · exact h e
theorem get!_of {l : List Int} {i : Nat} (h : i < l.length) : l.toArray[i]! = l[i] := by
  rw [getElem!_pos _ _ (by simpa using h)]
  simp
theorem compact_mem {l : List Int} {x : Int} : x ∈ Lib.compact l ↔ x ∈ l := by
  unfold Lib.compact Lib.compactUpTo
  rw [List.mem_map]
  constructor
  · rintro ⟨j, hj, rfl⟩
    have := List.mem_range.1 (List.mem_filter.1 hj).1
    rw [get!_of this]
    exact List.getElem_mem this
  · intro hx
    obtain ⟨i, hi, rfl⟩ := List.mem_iff_getElem.1 hx
    suffices h : ∀ i (hi : i < l.length), ∃ a ∈ (List.range l.length).filter (Lib.keeps l.toArray), l.toArray[a]! = l[i] from h i hi
    intro i
    induction i with
    | zero => intro hi; exact ⟨0, List.mem_filter.2 ⟨List.mem_range.2 hi, by simp [Lib.keeps]⟩, get!_of hi⟩
    | succ i ih =>
      intro hi
      cases hk : Lib.keeps l.toArray (i + 1) with
      | true => exact ⟨i + 1, List.mem_filter.2 ⟨List.mem_range.2 hi, hk⟩, get!_of hi⟩
      | false =>
        obtain ⟨_, h2⟩ := keeps_iff hk
        rw [get!_of hi, Nat.add_sub_cancel, get!_of (by omega)] at h2
        obtain ⟨a, ha, e⟩ := ih (by omega)
        exact ⟨a, ha, by rw [e, h2]⟩
theorem compact_rise {l : List Int} (h : l.Pairwise (· ≤ ·)) : (Lib.compact l).Pairwise (· < ·) := by
  unfold Lib.compact Lib.compactUpTo
  rw [List.pairwise_map]
  have hp : ((List.range l.length).filter (Lib.keeps l.toArray)).Pairwise (· < ·) := List.pairwise_lt_range.filter _
  refine hp.imp_of_mem fun {i j} hi hj hlt => ?_
  have h1 := List.mem_range.1 (List.mem_filter.1 hi).1
  have h2 := List.mem_range.1 (List.mem_filter.1 hj).1
  have h3 := keeps_ne (List.mem_filter.1 hj).2 (by omega)
  rw [get!_of h2, get!_of (by omega)] at h3
  rw [get!_of h1, get!_of h2]
  have hle := List.pairwise_iff_getElem.1 h
  have h4 := hle (j - 1) j (by omega) h2 (by omega)
  rcases Nat.lt_or_ge i (j - 1) with h5 | h5
  · have := hle i (j - 1) h1 (by omega) h5
    omega
  · have : i = j - 1 := by omega
    subst this
    omega
theorem sorted_le (zs : List Int) : (zs.mergeSort fun x y => decide (x ≤ y)).Pairwise (· ≤ ·) := by
  have hle : ∀ a b c : Int, decide (a ≤ b) = true → decide (b ≤ c) = true → decide (a ≤ c) = true := fun a b c x y => by
    simp only [decide_eq_true_eq] at *; omega
  have hto : ∀ a b : Int, (decide (a ≤ b) || decide (b ≤ a)) = true := fun a b => by
    simp only [Bool.or_eq_true, decide_eq_true_eq]; omega
  exact (List.pairwise_mergeSort hle hto zs).imp fun h => by simpa using h
theorem uniq_mem {zs : List Int} {x : Int} : x ∈ uniq zs ↔ x ∈ zs := by
  unfold uniq
  rw [compact_mem, (List.mergeSort_perm zs _).mem_iff]
theorem uniq_rise (zs : List Int) : (uniq zs).Pairwise (· < ·) := compact_rise (sorted_le zs)
/-- what is rising is told by what is in it -/
theorem rise_eq {a b : List Int} (ha : a.Pairwise (· < ·)) (hb : b.Pairwise (· < ·)) (h : ∀ x, x ∈ a ↔ x ∈ b) : a = b := by
  have hn : ∀ {l : List Int}, l.Pairwise (· < ·) → l.Nodup := fun h => h.imp fun {a b} hlt e => by omega
  exact List.Perm.eq_of_pairwise (le := fun a b => a < b) (fun a b _ _ h1 h2 => by omega) ha hb ((List.perm_ext_iff_of_nodup (hn ha) (hn hb)).2 h)
theorem sort_w (base g n c : Nat) (zs : List Int) (w : World) (h : w.ownsRow base 3 1 (.slice (some ⟨g, 0, none⟩) n c) n (ints zs)) (hn : n ≤ 1000000) (hb : base ≤ w.heap.size) :
    Calls Tryz.prog 78 #[.slice (some ⟨g, 0, none⟩) n c] w fun e w' => e = .returned (.tuple #[]) ∧ w'.ownsRow base 3 1 (.slice (some ⟨g, 0, none⟩) n c) n (ints (zs.mergeSort fun x y => decide (x ≤ y))) ∧ Below base w w' := by
  have h' : w.ownsRow base 3 1 (.slice (some ⟨g, 0, none⟩) n c) n (zs.map encZ) := h
  obtain ⟨g', c', e, h1, h2, h3, h4, h5, h6⟩ := Lib.holds_of_ownsRow h' (by simp)
  cases e
  subst h5
  have hs := AnyM.slices_Sort_int Tryz.sortA g 0 c zs w h6 h2 (by omega)
  refine hs.mono ?_
  rintro e w' ⟨rfl, nn, os, rfl⟩
  rcases h'.2 with ⟨e0, _⟩ | ⟨g', cap', cur, hv, hbase, hbl, r1, r2, r3, r4⟩
  · cases e0
  · cases hv
    exact ⟨rfl, ownsRow_sorted_i (by simp) hbase hbl r1 r2 r3, (Below.refl base w).grown (grownBy_sorted_i _) hb (fun j hj => by cases hj; exact hbase)⟩
theorem compact_w (base g n c : Nat) (zs : List Int) (w : World) (h : w.ownsRow base 3 1 (.slice (some ⟨g, 0, none⟩) n c) n (ints zs)) (hn : n ≤ 1000000) :
    Calls Tryz.prog 79 #[.slice (some ⟨g, 0, none⟩) n c] w fun e w' => e = .returned (.slice (some ⟨g, 0, none⟩) (Lib.compact zs).length c) ∧ w'.ownsRow base 3 1 (.slice (some ⟨g, 0, none⟩) (Lib.compact zs).length c) (Lib.compact zs).length (ints (Lib.compact zs)) ∧ Below base w w' := by
  have h' : w.ownsRow base 3 1 (.slice (some ⟨g, 0, none⟩) n c) n (zs.map encZ) := h
  obtain ⟨g', c', e, h1, h2, h3, h4, h5, h6⟩ := Lib.holds_of_ownsRow h' (by simp)
  cases e
  subst h5
  have hs := AnyG.slices_Compact_int Tryz.compactA g 0 c zs w h6 (by omega) h3
  have hle := Lib.compact_length_le zs
  refine hs.mono ?_
  rintro e w' ⟨rfl, q, rfl⟩
  have hc := Lib.ownsRow_putRow (q := q) (k := (Lib.compact zs).length) (ys := Lib.compact zs ++ List.replicate (zs.length - (Lib.compact zs).length) 0) h' (by simp; omega) hle
  rw [List.take_left] at hc
  exact ⟨rfl, hc, Lib.below_putRow (Below.refl base w) h1⟩
end Go.Proofs.YtbjfgdahfpfgdaaGreatDoor.SortW

namespace Go.Proofs.YtbjfgdahfpfgdaaGreatDoor.MapsW
open Go Go.RowKit Go.Maps Go.Proofs.YtbjfgdahfpfgdaaGreatDoor.Mem
set_option linter.unusedVariables false
set_option maxRecDepth 100000

theorem NowMap.mono {w : World} {base base' b n n' k : Nat} {F : Int → Option (List Nat)} (h : NowMap w base b n F k) (hn : n ≤ n') (hb : base' ≤ base) : NowMap w base' b n' F k := by
  obtain ⟨D, h1, h2, h3⟩ := h
  refine ⟨D, h1.mono hn, h2, fun i => ?_⟩
  have := h3 i
  cases hF : F i with
  | none => rw [hF] at this; exact this
  | some l =>
    cases l with
    | nil => rw [hF] at this; exact this
    | cons x l =>
      rw [hF] at this
      obtain ⟨a, g, cap, b1, b2, b3⟩ := this
      exact ⟨a, g, cap, b1, b2, by omega⟩
theorem now_rows {w w' : World} {b g cap : Nat} {x : Nat} {l : List Nat} (hgw : w.grownBy w' (some b)) (hb : ∃ es ck, w.heap[b]? = some (.map es ck)) (hn : Nums .u8 w (some ⟨g, 0, none⟩) (l.length + 1) cap (x :: l)) : Nums .u8 w' (some ⟨g, 0, none⟩) (l.length + 1) cap (x :: l) := by
  obtain ⟨c, t, f, hc⟩ := nums_cells hn (by omega)
  refine nums_of_cells hn (hgw.block g (Array.getElem?_eq_some_iff.1 hc).1 fun e => ?_)
  obtain ⟨es, ck, hm⟩ := hb
  rw [Option.some.inj e] at hc
  rw [hm] at hc
  cases hc
/-- how an element of such a map reads -/
def NowIs (w : World) (base : Nat) (D : DataW Unit) (i : Int) : Option (List Nat) → Prop
  | none => Maps.has D (.int .i64 i) = false
  | some [] => Maps.has D (.int .i64 i) = true ∧ ∀ z, D.atKey (.int .i64 i) z = .nil
  | some (x :: l) => Maps.has D (.int .i64 i) = true ∧ ∃ g cap, (∀ z, D.atKey (.int .i64 i) z = rowd g (l.length + 1) cap) ∧ Nums .u8 w (some ⟨g, 0, none⟩) (l.length + 1) cap (x :: l) ∧ base ≤ g
theorem NowMap.of {w : World} {base b n k : Nat} {F : Int → Option (List Nat)} (D : DataW Unit) (h1 : w.ownsMap Tryz.prog 3 rowR b n D) (h2 : Maps.size D = k) (h3 : ∀ i, NowIs w base D i (F i)) : NowMap w base b n F k := by
  refine ⟨D, h1, h2, fun i => ?_⟩
  have := h3 i
  cases hF : F i with
  | none => rw [hF] at this; exact this
  | some l =>
    cases l with
    | nil => rw [hF] at this; exact this
    | cons x l => rw [hF] at this; exact this
theorem NowMap.is {w : World} {base b n k : Nat} {F : Int → Option (List Nat)} (h : NowMap w base b n F k) : ∃ D, w.ownsMap Tryz.prog 3 rowR b n D ∧ Maps.size D = k ∧ ∀ i, NowIs w base D i (F i) := by
  obtain ⟨D, h1, h2, h3⟩ := h
  refine ⟨D, h1, h2, fun i => ?_⟩
  have := h3 i
  cases hF : F i with
  | none => rw [hF] at this; exact this
  | some l =>
    cases l with
    | nil => rw [hF] at this; exact this
    | cons x l => rw [hF] at this; exact this
theorem NowIs.has {w : World} {base : Nat} {D : DataW Unit} {i : Int} {o : Option (List Nat)} (h : NowIs w base D i o) : Maps.has D (.int .i64 i) = o.isSome := by
  match o, h with
  | none, h => exact h
  | some [], h => exact h.1
  | some (x :: l), h => exact h.1
theorem NowIs.other {w w' : World} {base b : Nat} {D : DataW Unit} {i j : Int} {o : Option (List Nat)} {y : DataW Unit} (h : NowIs w base D j o) (hj : j ≠ i) (hgw : w.grownBy w' (some b)) (hb : ∃ es ck, w.heap[b]? = some (.map es ck)) : NowIs w' base (D.put (.int .i64 i) y) j o := by
  match o, h with
  | none, h => exact (has_put_other (litne hj) _).trans h
  | some [], h => exact ⟨(has_put_other (litne hj) _).trans h.1, fun z => (atKey_put_other (litne hj) _ z).trans (h.2 z)⟩
  | some (x :: l), ⟨a, g, cap, b1, b2, b3⟩ => exact ⟨(has_put_other (litne hj) _).trans a, g, cap, fun z => (atKey_put_other (litne hj) _ z).trans (b1 z), now_rows hgw hb b2, b3⟩
/-- 'm[i] = b' -/
theorem NowMap.store {w : World} {base b n k : Nat} {F : Int → Option (List Nat)} (h : NowMap w base b n F k) (hn : n < 1000000) {i : Int} (hi : Fits i) {g cap x : Nat} {l : List Nat} (hl : Nums .u8 w (some ⟨g, 0, none⟩) (l.length + 1) cap (x :: l)) (hbg : base ≤ g) :
    ∃ w', (Instr.mapUpdate 91 (.map (some b)) (.int .i64 i) (.slice (some ⟨g, 0, none⟩) (l.length + 1) cap)).run Tryz.prog w = .ok () w' ∧ NowMap w' base b (n + 1) (upd F i (some (x :: l))) (if (F i).isSome then k else k + 1) ∧ w.grownBy w' (some b) := by
  have hb := h.block
  obtain ⟨D, h1, h2, h3⟩ := h.is
  obtain ⟨w', hr, ho, hgw⟩ := h1.update law Tryz.underlying91 (by unfold maxLen; omega) (key hi) (rowR_mk g (l.length + 1) cap)
  have hT := h1.tidy law
  refine ⟨w', hr, NowMap.of _ ho ?_ fun j => ?_, hgw⟩
  · rw [size_put hT, h2, (h3 i).has]
  · by_cases hj : j = i
    · subst hj
      rw [upd_same]
      exact ⟨has_put_same hT.isMap (islit j) _, g, cap, fun z => atKey_put_same hT.isMap (islit j) _ z, now_rows hgw hb hl, hbg⟩
    · rw [upd_other _ _ hj]
      exact (h3 j).other hj hgw hb
/-- 'm[i] = nil' -/
theorem NowMap.storeNil {w : World} {base b n k : Nat} {F : Int → Option (List Nat)} (h : NowMap w base b n F k) (hn : n < 1000000) {i : Int} (hi : Fits i) :
    ∃ w', (Instr.mapUpdate 91 (.map (some b)) (.int .i64 i) (.slice none 0 0)).run Tryz.prog w = .ok () w' ∧ NowMap w' base b (n + 1) (upd F i (some [])) (if (F i).isSome then k else k + 1) ∧ w.grownBy w' (some b) := by
  have hb := h.block
  obtain ⟨D, h1, h2, h3⟩ := h.is
  obtain ⟨w', hr, ho, hgw⟩ := h1.update law Tryz.underlying91 (by unfold maxLen; omega) (key hi) (show rowR (.slice none 0 0) = some (.nil, []) from rfl)
  have hT := h1.tidy law
  refine ⟨w', hr, NowMap.of _ ho ?_ fun j => ?_, hgw⟩
  · rw [size_put hT, h2, (h3 i).has]
  · by_cases hj : j = i
    · subst hj
      rw [upd_same]
      exact ⟨has_put_same hT.isMap (islit j) _, fun z => atKey_put_same hT.isMap (islit j) _ z⟩
    · rw [upd_other _ _ hj]
      exact (h3 j).other hj hgw hb
/-- 'm[i]' -/
theorem NowMap.look_none {w : World} {base b n k : Nat} {F : Int → Option (List Nat)} (h : NowMap w base b n F k) {i : Int} (hi : Fits i) (hF : (F i).getD [] = []) :
    (Instr.lookup 91 (.map (some b)) (.int .i64 i) false).run Tryz.prog w = .ok (.slice none 0 0) w := by
  obtain ⟨D, h1, _, h3⟩ := h.is
  have := h3 i
  obtain ⟨v, ps, hr, hv⟩ := h1.lookup law Tryz.underlying91 (zeroRow w) (zd := .nil) (zp := []) rfl (key hi)
  have e : D.atKey (.int .i64 i) .nil = .nil := by
    cases hF' : F i with
    | none => rw [hF'] at this; exact atKey_of_not_has this _
    | some l =>
      rw [hF'] at this hF
      obtain rfl : l = [] := hF
      exact this.2 _
  rw [e] at hv
  rw [rowR_nil hv] at hr
  exact hr
theorem NowMap.look_some {w : World} {base b n k : Nat} {F : Int → Option (List Nat)} (h : NowMap w base b n F k) {i : Int} (hi : Fits i) {x : Nat} {l : List Nat} (hF : F i = some (x :: l)) :
    ∃ g cap, (Instr.lookup 91 (.map (some b)) (.int .i64 i) false).run Tryz.prog w = .ok (.slice (some ⟨g, 0, none⟩) (l.length + 1) cap) w ∧ Nums .u8 w (some ⟨g, 0, none⟩) (l.length + 1) cap (x :: l) ∧ base ≤ g := by
  obtain ⟨D, h1, _, h3⟩ := h.is
  have := h3 i
  rw [hF] at this
  obtain ⟨a, g, cap, b1, b2, b3⟩ := this
  obtain ⟨v, ps, hr, hv⟩ := h1.lookup law Tryz.underlying91 (zeroRow w) (zd := .nil) (zp := []) rfl (key hi)
  rw [b1] at hv
  rw [rowR_row hv] at hr
  exact ⟨g, cap, hr, b2, b3⟩
theorem NowMap.len {w : World} {base b n k : Nat} {F : Int → Option (List Nat)} (h : NowMap w base b n F k) : ∃ D : DataW Unit, w.ownsMap Tryz.prog 3 rowR b n D ∧ Maps.size D = k := by
  obtain ⟨D, h1, h2, _⟩ := h
  exact ⟨D, h1, h2⟩
/-- the keys of a map -/
theorem ikeys_is {H : Type} {w : World} {b n : Nat} {D : DataW H} {R : Value → Option (DataW H × List MemPlace)} (h : w.ownsMap Tryz.prog 3 R b n D) : (intKeys D).Nodup ∧ (intKeys D).length = Maps.size D ∧ ∀ x, x ∈ intKeys D ↔ Maps.has D (.int .i64 x) = true := by
  obtain ⟨es, rfl, hpw⟩ := h.tidy law
  obtain ⟨es', hD', hko⟩ := h.keysOf
  obtain rfl : es = es' := by simpa using hD'
  have hk : ∀ p ∈ es, ∃ x, p.1 = .int .i64 x := fun p hp => by
    obtain ⟨v, hv⟩ := hko p hp
    obtain ⟨x, _, hx, _⟩ := Maps.keyOf_i64 Tryz.underlying3 hv
    exact ⟨x, hx⟩
  refine ⟨?_, by simp [intKeys, Maps.size], fun x => ?_⟩
  · show (es.map fun p => Go.intOf p.1).Nodup
    refine List.pairwise_map.2 (hpw.imp_of_mem fun {p q} hp' hq' hne e => hne ?_)
    obtain ⟨a, ha⟩ := hk p hp'
    obtain ⟨b, hb⟩ := hk q hq'
    rw [ha, hb] at e ⊢
    exact congrArg _ e
  · rw [has_eq, List.any_eq_true]
    show x ∈ es.map (fun p => Go.intOf p.1) ↔ _
    rw [List.mem_map]
    constructor
    · rintro ⟨p, hp', rfl⟩
      obtain ⟨a, ha⟩ := hk p hp'
      exact ⟨p, hp', by rw [ha]; simp [Lit.sameKey, Go.intOf]⟩
    · rintro ⟨p, hp', hs⟩
      obtain ⟨a, ha⟩ := hk p hp'
      rw [ha] at hs
      exact ⟨p, hp', by rw [ha]; simpa [Lit.sameKey, Go.intOf] using hs⟩
theorem cnt_of {α : Type} {F : Int → Option α} (hd : ∀ i, (F i).isSome = true → 0 ≤ i ∧ i < 256) {l : List Int} (hn : l.Nodup) (hm : ∀ i, i ∈ l ↔ (F i).isSome = true) : l.length = PgP.cnt F := by
  have hp : l.Perm (((List.range 256).filter fun (p : Nat) => (F (p : Int)).isSome).map fun (p : Nat) => (p : Int)) := by
    refine (List.perm_ext_iff_of_nodup hn ?_).2 fun i => ?_
    · exact List.pairwise_map.2 ((List.nodup_range.filter _).imp fun {a b} h e => h (Int.natCast_inj.1 e))
    · rw [hm, List.mem_map]
      constructor
      · intro h
        obtain ⟨h1, h2⟩ := hd i h
        exact ⟨i.toNat, List.mem_filter.2 ⟨List.mem_range.2 (by omega), by rw [show ((i.toNat : Nat) : Int) = i by omega]; exact h⟩, by omega⟩
      · rintro ⟨p, hp, rfl⟩
        exact (List.mem_filter.1 hp).2
  rw [hp.length_eq, List.length_map]
  unfold PgP.cnt
  rw [List.countP_eq_length_filter]
theorem NowMap.cnt {w : World} {base b n k : Nat} {F : Int → Option (List Nat)} (h : NowMap w base b n F k) (hd : ∀ i, (F i).isSome = true → 0 ≤ i ∧ i < 256) : k = PgP.cnt F := by
  obtain ⟨D, h1, h2, h3⟩ := h.is
  obtain ⟨k1, k2, k3⟩ := ikeys_is h1
  rw [← h2, ← k2]
  exact cnt_of hd k1 fun i => by rw [k3, (h3 i).has]
theorem RefMap.has {w : World} {b n k : Nat} {F : Int → Option (Int × Nat)} {D : DataW Unit} (h3 : ∀ i, match F i with
      | none => Maps.has D (.int .i64 i) = false
      | some r => Maps.has D (.int .i64 i) = true ∧ ∀ z, D.atKey (.int .i64 i) z = refd r.1 (r.2 : Int)) (i : Int) : Maps.has D (.int .i64 i) = (F i).isSome := by
  have := h3 i
  cases hF : F i with
  | none => rw [hF] at this; exact this
  | some r => rw [hF] at this; exact this.1
theorem RefMap.cnt {w : World} {b n k : Nat} {F : Int → Option (Int × Nat)} (h : RefMap w b n F k) (hd : ∀ i, (F i).isSome = true → 0 ≤ i ∧ i < 256) : k = PgP.cnt F := by
  obtain ⟨D, h1, h2, h3⟩ := h
  obtain ⟨k1, k2, k3⟩ := ikeys_is h1
  rw [← h2, ← k2]
  exact cnt_of hd k1 fun i => by rw [k3, RefMap.has (w := w) (b := b) (n := n) (k := k) h3]
/-- 'm[i] = r' -/
theorem RefMap.store {w : World} {b n k : Nat} {F : Int → Option (Int × Nat)} (h : RefMap w b n F k) (hn : n < 1000000) {i : Int} (hi : Fits i) (r : Int × Nat) :
    ∃ w', (Instr.mapUpdate 90 (.map (some b)) (.int .i64 i) (refV r)).run Tryz.prog w = .ok () w' ∧ RefMap w' b (n + 1) (upd F i (some r)) (if (F i).isSome then k else k + 1) ∧ w.grownBy w' (some b) := by
  obtain ⟨D, h1, h2, h3⟩ := h
  have hh := RefMap.has (w := w) (b := b) (n := n) (k := k) h3
  obtain ⟨w', hr, ho, hgw⟩ := h1.update law Tryz.underlying90 (by unfold maxLen; omega) (key hi) (refR_mk r)
  have hT := h1.tidy law
  refine ⟨w', hr, ⟨_, ho, ?_, fun j => ?_⟩, hgw⟩
  · rw [size_put hT, h2, hh]
  · by_cases hj : j = i
    · subst hj
      rw [upd_same]
      exact ⟨has_put_same hT.isMap (islit j) _, fun z => atKey_put_same hT.isMap (islit j) _ z⟩
    · rw [upd_other _ _ hj]
      have := h3 j
      cases hF : F j with
      | none => rw [hF] at this; exact (has_put_other (litne hj) _).trans this
      | some l' =>
        rw [hF] at this
        exact ⟨(has_put_other (litne hj) _).trans this.1, fun z => (atKey_put_other (litne hj) _ z).trans (this.2 z)⟩
theorem wpList_delRef (w : World) {ops : Array Oper} {rest : List Oper} {o : Oper} {a : Act} {Q : Exit → Act → World → Prop} (hg : o.guard = none) (m x : Operand) (hop : o.op = Op.call { callee := Callee.builtin Builtin.delete, args := #[m, x], argTypes := #[90, 3] })
    {b n k : Nat} {F : Int → Option (Int × Nat)} (h : RefMap w b n F k) {i : Int} (hi : Fits i)
    (hm : a.eval m = .map (some b)) (hx : a.eval x = .int .i64 i)
    (hK : ∀ w', RefMap w' b n (upd F i none) (if (F i).isSome then k - 1 else k) → w.grownBy w' (some b) → wpList Tryz.prog ops Q rest (a.put o.dst (.tuple #[])) w') : wpList Tryz.prog ops Q (o :: rest) a w := by
  obtain ⟨D, h1, h2, h3⟩ := h
  have hh := RefMap.has (w := w) (b := b) (n := n) (k := k) h3
  refine wpList_delete_own w hg m x _ _ hop 111 law Tryz.underlying90 _ b n D hm h1 _ _ hx (key hi) fun w' ho hgw => ?_
  refine hK w' ⟨_, ho, ?_, fun j => ?_⟩ hgw.grown
  · have hs := size_del (k := .int .i64 i) (h1.tidy law)
    rw [h2, hh] at hs
    cases hF : (F i).isSome with
    | false => rw [hF] at hs; simpa using hs
    | true => rw [hF] at hs; simp at hs ⊢; omega
  · by_cases hj : j = i
    · subst hj
      rw [upd_same]
      exact has_del_same
    · rw [upd_other _ _ hj]
      have := h3 j
      cases hF : F j with
      | none => rw [hF] at this; exact (has_del_other (litne hj)).trans this
      | some l' =>
        rw [hF] at this
        exact ⟨(has_del_other (litne hj)).trans this.1, fun z => (atKey_del_other (litne hj) z).trans (this.2 z)⟩
end Go.Proofs.YtbjfgdahfpfgdaaGreatDoor.MapsW

namespace Go.Proofs.YtbjfgdahfpfgdaaGreatDoor.PgW
open Go Go.RowKit Go.Maps Go.Sort Go.Shelf Go.Proofs Go.Proofs.YtbjfgdahfpfgdaaGreatDoor.Mem Go.Proofs.YtbjfgdahfpfgdaaGreatDoor.MapsW Go.Proofs.YtbjfgdahfpfgdaaGreatDoor.PgP Go.Proofs.YtbjfgdahfpfgdaaGreatDoor.Ints Go.Proofs.YtbjfgdahfpfgdaaGreatDoor.SortW Go.Proofs.YtbjfgdahfpfgdaaGreatDoor.RefsW
set_option linter.unusedVariables false
set_option maxRecDepth 100000

theorem cast_rise {l : List Nat} (h : l.Pairwise (· < ·)) : (l.map fun (p : Nat) => (p : Int)).Pairwise (· < ·) := List.pairwise_map.2 (h.imp fun h => by omega)
/-- slices.Sorted of the keys of what was changed -/
theorem now_sorted (b n Bm base k : Nat) (N : Int → Option (List Nat)) (w : World) (hBm : Bm < w.heap.size) (hm : w.cell? ⟨Bm, 0, none⟩ = some (.map (some b))) (h : NowMap w base b n N k) (hd : ∀ i, (N i).isSome = true → 0 ≤ i ∧ i < 256) :
    Calls Tryz.prog 62 #[.func (.func 103) #[] #[.pointer (some ⟨Bm, 0, none⟩)]] w fun e w' => ∃ (v : Value), e = .returned v ∧
      w'.ownsRow w.heap.size 3 1 v (keys N).length (nums .i64 (keys N)) ∧ Below w.heap.size w w' := by
  have hk := h.cnt hd
  obtain ⟨D, h1, h2, h3⟩ := h.is
  obtain ⟨k1, k0, k2⟩ := ikeys_is h1
  have hc : cnt N ≤ 256 := by
    unfold cnt
    have := List.countP_le_length (p := fun (p : Nat) => (N (p : Int)).isSome) (l := List.range 256)
    simpa using this
  refine (sorted_w b n Bm D rowR w hBm hm h1 (by omega)).mono ?_
  rintro e w' ⟨v, ss, rfl, hp, ho, _, hb⟩
  have hpm := List.mergeSort_perm ss (fun x y => decide (x ≤ y))
  have hnd : (ss.mergeSort fun x y => decide (x ≤ y)).Nodup := (hpm.trans hp).nodup_iff.2 k1
  have e1 : (ss.mergeSort fun x y => decide (x ≤ y)) = (keys N).map fun (p : Nat) => (p : Int) := by
    refine rise_eq (((sorted_le ss).and hnd).imp fun q => by have := q.1; have := q.2; omega) (cast_rise (List.pairwise_lt_range.filter _)) fun x => ?_
    rw [(hpm.trans hp).mem_iff, k2, (h3 x).has, List.mem_map]
    constructor
    · intro hx
      obtain ⟨d1, d2⟩ := hd x hx
      exact ⟨x.toNat, mem_keys.2 ⟨by omega, by rw [show ((x.toNat : Nat) : Int) = x by omega]; exact hx⟩, by omega⟩
    · rintro ⟨p, hp, rfl⟩
      exact (mem_keys.1 hp).2
  rw [e1] at ho
  have e2 : ss.length = (keys N).length := by
    have := congrArg List.length e1
    rw [hpm.length_eq, List.length_map] at this
    exact this
  rw [e2] at ho
  refine ⟨v, rfl, ?_, hb⟩
  rw [List.map_map] at ho
  exact ho
/-- maps.Keys of the pages' places -/
theorem rkeys_w (mb : Option Nat) (w : World) : Calls Tryz.prog 87 #[.map mb] w fun e w' => e = .returned (.func (.func 120) #[] #[.pointer (some ⟨w.heap.size, 0, none⟩)]) ∧ w' = w.alloc (.cells #[.map mb] 90) :=
  (callsIn_wide (n := 5)).1 (AnyZI.keys_in Tryz.keysR Fence.wide 5 trivial rfl mb w)
/-- slices.Collect of them -/
theorem ref_collect (b n Bm k : Nat) (F : Int → Option (Int × Nat)) (w : World) (hBm : Bm < w.heap.size) (hm : w.cell? ⟨Bm, 0, none⟩ = some (.map (some b))) (h : RefMap w b n F k) (hd : ∀ i, (F i).isSome = true → 0 ≤ i ∧ i < 256) :
    Calls Tryz.prog 86 #[.func (.func 120) #[] #[.pointer (some ⟨Bm, 0, none⟩)]] w fun e w' => ∃ (v : Value) (ss : List Int), e = .returned v ∧ (∀ x, x ∈ ss ↔ (F x).isSome = true) ∧
      w'.ownsRow w.heap.size 3 1 v ss.length (ints ss) ∧ ss.length ≤ 256 ∧ Below w.heap.size w w' := by
  have hk := h.cnt hd
  obtain ⟨D, h1, h2, h3⟩ := h
  obtain ⟨k1, k0, k2⟩ := ikeys_is h1
  have hc : cnt F ≤ 256 := by
    unfold cnt
    have := List.countP_le_length (p := fun (p : Nat) => (F (p : Int)).isSome) (l := List.range 256)
    simpa using this
  have hseq : SeqGives Fence.wide 3 Tryz.prog 120 #[.pointer (some ⟨Bm, 0, none⟩)] encZ (fun ss => ss.Perm (intKeys D)) (Maps.size D) w :=
    AnyZI.keys_gives (ρ := Tryz.keysR_ren) { Tryz.keysR with } Fence.wide _ trivial rfl (by omega) Bm b n D _ hBm hm h1
  have cS := AnyZI.collect_in Tryz.collectA Fence.wide 5 trivial trivial rfl (by omega) 120 #[.pointer (some ⟨Bm, 0, none⟩)] trivial (enters_of Tryz.func120 (by kernel_rfl) rfl) _ _ (by unfold maxLen; omega) (by omega) _ hseq
  refine (callsIn_wide.1 cS).mono ?_
  rintro e w' ⟨v, ss, rfl, hp, ho, _, hb⟩
  exact ⟨v, ss, rfl, fun x => by rw [hp.mem_iff, k2, RefMap.has (w := w) (b := b) (n := n) (k := k) h3], ho, by rw [hp.length_eq, k0]; omega, hb⟩
/-- a copy of places -/
theorem cloneRefs_w (b off n c : Nat) (rs : List (Int × Nat)) (w : World) (h : Refs w (some ⟨b, off, none⟩) n c rs) (hn : n ≤ 1000000) :
    Calls Tryz.prog 80 #[.slice (some ⟨b, off, none⟩) n c] w fun e w' => ∃ g cap, e = .returned (.slice (some ⟨g, 0, none⟩) n cap) ∧ OwnRefs w' w.heap.size (.slice (some ⟨g, 0, none⟩) n cap) n rs ∧ Below w.heap.size w w' := by
  obtain ⟨i, hi, hz0, hz1, hz2⟩ := info_parts elRef.hi
  refine (AnyE.slices_Clone Tryz.cloneRs i _ 2 16 hi hz0 hz1 hz2 elRef.hz elRef.h0 (fun w => by kernel_rfl) b off n c (refCells rs) w h.1 (by unfold maxLen; omega) (by omega) (fun j u hj => Row.cell h hj) (refCells_one rs)).mono ?_
  rintro e w' ⟨v, rfl, ho, hne, hb⟩
  have ho' := ho
  rcases ho.2 with ⟨e0, _⟩ | ⟨g, cap, cur, rfl, _⟩
  · exact absurd e0 hne
  · exact ⟨g, cap, rfl, ho', hb⟩
/-- a copy of the map of the pages' places -/
theorem cloneMap_w (b n k : Nat) (F : Int → Option (Int × Nat)) (w : World) (h : RefMap w b n F k) :
    Calls Tryz.prog 81 #[.map (some b)] w fun e w' => e = .returned (.map (some w.heap.size)) ∧ RefMap w' w.heap.size n F k ∧ w'.heap.size = w.heap.size + 1 ∧ Below w.heap.size w w' := by
  obtain ⟨D, h1, h2, h3⟩ := h
  obtain ⟨es, ck, hb, hr⟩ := h1
  refine (AnyW.maps_Clone Tryz.cloneRm b es ck w hb).mono ?_
  rintro e w' ⟨rfl, rfl⟩
  exact ⟨rfl, ⟨D, ⟨es, ck, heap_alloc_new _ _, hr⟩, h2, h3⟩, by simp, (Below.refl _ w).alloc (Nat.le_refl _) _⟩
/-- is a number among those in use? -/
theorem search_w (b off n c : Nat) (zs : List Int) (x : Int) (w : World) (h : Is w (some ⟨b, off, none⟩) n c zs) (hn : n ≤ 1000000) (hs : zs.Pairwise (· < ·)) :
    Calls Tryz.prog 82 #[.slice (some ⟨b, off, none⟩) n c, .int .i64 x] w fun e w' => (∃ j : Int, e = .returned (.tuple #[.int .i64 j, .bool (decide (x ∈ zs))])) ∧ Below w.heap.size w w' := by
  have hl := h.len
  have ht : zs.take n = zs := List.take_of_length_le (by omega)
  refine (AnyG.slices_BinarySearch_int Tryz.searchA b off n c zs x w (by omega) (by omega) (fun j hj => ?_) (by rw [ht]; exact hs.imp fun h => by omega)).mono ?_
  · have := Row.cell h (j := j) (u := .int .i64 (zs.getD j 0)) (by simp [ints, hj, List.getD_eq_getElem?_getD])
    exact this
  · rintro e w' ⟨rfl, q, rfl⟩
    rw [ht]
    refine ⟨⟨((zs.countP (· < x) : Nat) : Int), ?_⟩, below_drewN (Below.refl _ _) _⟩
    rw [show zs.contains x = decide (x ∈ zs) by rw [Bool.eq_iff_iff]; simp]
end Go.Proofs.YtbjfgdahfpfgdaaGreatDoor.PgW

namespace Go.Proofs.YtbjfgdahfpfgdaaGreatDoor.PairG
open Go Go.RowKit Go.Maps Go.Proofs.YtbjfgdahfpfgdaaGreatDoor.Mem Go.Proofs.YtbjfgdahfpfgdaaGreatDoor.MapsW Go.Proofs.YtbjfgdahfpfgdaaGreatDoor.SeeW Go.Proofs.YtbjfgdahfpfgdaaGreatDoor.DevG
set_option linter.unusedVariables false
set_option maxRecDepth 100000

/-- one copy: its bytes, whether they have the sum -/
def One (w : World) (r : Option (List Nat)) (sum : Nat) (e : Ending) (w' : World) : Prop :=
  (match r with
    | some l => ∃ g cap, e = .returned (.tuple #[.slice (some ⟨g, 0, none⟩) 256 cap, .bool (decide (Crc.sum l = sum)), .nilIface]) ∧ Nums .u8 w' (some ⟨g, 0, none⟩) 256 cap l ∧ w.heap.size ≤ g
    | none => e = .returned (.tuple #[.slice none 0 0, .bool false, .nilIface])) ∧ Below w.heap.size w w'
set_option maxHeartbeats 1600000 in
theorem one_w (bs : List Addr) (lo d n : Nat) (m : Mp) (D : Dv) (p h c : Nat) (i sum : Nat) (w : World) (k : PAt w lo d n m D p h c) (hB : Ev w lo bs five) (hi : i < D.blocks) (hbt : ∀ l, D.read i = some l → Crc.Bytes l) :
    Calls Tryz.prog 99 #[ptr p, .int .i64 i, .int .u32 sum] w (One w (D.read i) sum) := by
  obtain ⟨c0, c1, c2, c3, f3⟩ := k.c
  have hr := read_up bs d lo n m D i w k.dev hB (fits_nat (by have := k.most; omega)) k.up (by omega)
  unfold One
  cases hD : D.read i with
  | some l =>
    rw [hD] at hr
    have hb := hbt l hD
    go_enter Tryz.func99, Tryz.ntmps99
    go_wp2_with fail
    refine hr.mono ?_
    rintro e w1 ⟨⟨g, cap, rfl, hn, hg⟩, hb1⟩
    obtain ⟨aI, haI, hAI⟩ := (hB.below hb1).get 6 _ (by decide) rfl
    have hA1 := hAI.1
    have he := fun w => run_eql_iface_nil_left (P := Tryz.prog) (w := w) Err.tp (.pointer (some aI)) Tryz.underlying33
    go_wp2_with fail
    refine (CrcW.sum_w _ 256 cap l _ hn hb).mono ?_
    rintro e w2 ⟨rfl, rfl⟩
    have hse : (((Crc.sum l : Nat) : Int) == (sum : Int)) = decide (Crc.sum l = sum) := by
      rw [Bool.eq_iff_iff, beq_iff_eq, decide_eq_true_eq]; omega
    generalize hgs : Crc.sum l = s at *
    have HS := hid hse
    have HG := hid hgs
    clear hse hgs
    go_wp2
    refine bodyPost_ret (v := .tuple #[.slice (some ⟨g, 0, none⟩) 256 cap, .bool ((s : Int) == (sum : Int)), .nilIface]) (by simp [results, Tryz.results99, go_sem]) rfl ⟨⟨g, cap, by rw [HS.out, HG.out], hn, hg⟩, hb1⟩
  | none =>
    rw [hD] at hr
    go_enter Tryz.func99, Tryz.ntmps99
    go_wp2_with fail
    refine hr.mono ?_
    rintro e w1 ⟨⟨aI', haI', rfl⟩, hb1⟩
    obtain ⟨aI, haI, hAI⟩ := (hB.below hb1).get 6 _ (by decide) rfl
    rw [haI] at haI'
    cases haI'
    have hA1 := hAI.1
    obtain ⟨i1, hi1, hi2⟩ : ∃ i, Tryz.prog.info? Err.tp = some i ∧ i.comparable = true := ⟨_, rfl, by kernel_rfl⟩
    obtain ⟨j, hj⟩ : ∃ j, Tryz.prog.info? 263 = some j := ⟨_, rfl⟩
    have he := fun w => run_eql_iface_ptr_same (P := Tryz.prog) (w := w) aI' Tryz.underlying33 Tryz.underlying247 hi1 hi2 hj
    go_wp2
    refine bodyPost_ret (v := .tuple #[.slice none 0 0, .bool false, .nilIface]) (by simp [results, Tryz.results99, go_sem]) rfl ⟨rfl, hb1⟩

abbrev Rf (i : Int) (s : Nat) : Value := .agg #[.int .i64 i, .int .u32 s]

/-- what a read of a pair gives, what the device is then, how many were mended -/
def readP (D : Dv) (h c i s : Nat) : Option (List Nat) × Dv × Nat :=
  match D.read i with
  | some l => if Crc.sum l = s then (some l, D, c) else
    match D.read (i + h : Nat) with
    | some l' => if Crc.sum l' = s then (some l', D.put i l', c + 1) else (none, D, c)
    | none => (none, D, c)
  | none =>
    match D.read (i + h : Nat) with
    | some l' => if Crc.sum l' = s then (some l', D.put i l', c + 1) else (none, D, c)
    | none => (none, D, c)

/-- what the second copy gives, where the first did not -/
def second (D : Dv) (h c i s : Nat) : Option (List Nat) × Dv × Nat :=
  match D.read (i + h : Nat) with
  | some l' => if Crc.sum l' = s then (some l', D.put i l', c + 1) else (none, D, c)
  | none => (none, D, c)
theorem readP_first {D : Dv} {h c i s : Nat} {l : List Nat} (h1 : D.read i = some l) (h2 : Crc.sum l = s) : readP D h c i s = (some l, D, c) := by
  unfold readP; rw [h1]; simp only; rw [if_pos h2]
theorem readP_second {D : Dv} {h c i s : Nat} (h1 : ∀ l, D.read i = some l → Crc.sum l ≠ s) : readP D h c i s = second D h c i s := by
  unfold readP second
  cases hD : D.read i with
  | none => rfl
  | some l => simp only; rw [if_neg (h1 l hD)]

def ReadTo (bs : List Addr) (w : World) (lo d n : Nat) (m : Mp) (p h : Nat) (r : Option (List Nat) × Dv × Nat) (e : Ending) (w' : World) : Prop :=
  (match r.1 with
    | some l => ∃ g cap, e = .returned (.tuple #[.slice (some ⟨g, 0, none⟩) 256 cap, .nilIface]) ∧ Nums .u8 w' (some ⟨g, 0, none⟩) 256 cap l ∧ w.heap.size ≤ g
    | none => ∃ a, bs[6]? = some a ∧ e = .returned (.tuple #[.slice none 0 0, ev a])) ∧ PAt w' lo d (n + 1) m r.2.1 p h r.2.2 ∧ Turn (p :: own d m) w w'

set_option maxHeartbeats 3200000 in
theorem read_first (bs : List Addr) (lo d n : Nat) (m : Mp) (D : Dv) (p h c : Nat) (i s : Nat) (w : World) (k : PAt w lo d n m D p h c) (hB : Ev w lo bs five) (hi : i < h) (hbt : ∀ j l, D.read j = some l → Crc.Bytes l) {l : List Nat} (h1 : D.read i = some l) (h2 : Crc.sum l = s) :
    Calls Tryz.prog 56 #[ptr p, Rf i s] w (ReadTo bs w lo d n m p h (some l, D, c)) := by
  have hhf := k.half
  have hmo := k.most
  have hf : Fits (i : Int) := fits_nat (by omega)
  have hd : decide (0 ≤ (i : Int) ∧ (i : Int) < h) = true := by rw [decide_eq_true_eq]; omega
  have bx := (Below.refl w.heap.size w).alloc (Nat.le_refl _) (.cells #[.int .i64 i, .int .u32 s] 111)
  obtain ⟨q0, q1⟩ := new2 w (.int .i64 i) (.int .u32 s) 111
  have kx := k.below bx
  have ho := one_w bs lo d n m D p h c i s _ kx (hB.below bx) (by omega) (fun l hl => hbt i l hl)
  rw [h1] at ho
  unfold One at ho
  simp only [h2, decide_true] at ho
  go_enter Tryz.func56, Tryz.ntmps56
  go_wp2_with fail
  refine (is_w lo d n m D p h c i _ kx hf).mono ?_
  rintro e w' ⟨rfl, rfl⟩
  rw [hd]
  go_wp2_with fail
  refine ho.mono ?_
  rintro e w1 ⟨⟨g, cap, rfl, hn, hg⟩, hb1⟩
  have hb2 : Below w.heap.size w w1 := bx.trans (hb1.mono (by simp))
  have k2 := kx.below hb1
  go_wp2
  refine bodyPost_ret (v := .tuple #[.slice (some ⟨g, 0, none⟩) 256 cap, .nilIface]) (by simp [results, Tryz.results56, go_sem]) rfl ⟨⟨g, cap, rfl, hn, by simp at hg; omega⟩, k2.mono (by omega) (Nat.le_refl _), Turn.of_below hb2⟩

/-- a copy that has not the sum -/
theorem one_not (bs : List Addr) (lo d n : Nat) (m : Mp) (D : Dv) (p h c : Nat) (i s : Nat) (w : World) (k : PAt w lo d n m D p h c) (hB : Ev w lo bs five) (hi : i < D.blocks) (hbt : ∀ l, D.read i = some l → Crc.Bytes l) (hns : ∀ l, D.read i = some l → Crc.sum l ≠ s) :
    Calls Tryz.prog 99 #[ptr p, .int .i64 i, .int .u32 s] w fun e w' => (∃ a n cap, e = .returned (.tuple #[.slice a n cap, .bool false, .nilIface])) ∧ Below w.heap.size w w' := by
  have ho := one_w bs lo d n m D p h c i s w k hB hi hbt
  unfold One at ho
  cases hD : D.read i with
  | none =>
    rw [hD] at ho
    refine ho.mono ?_
    rintro e w' ⟨rfl, hb⟩
    exact ⟨⟨_, _, _, rfl⟩, hb⟩
  | some l =>
    rw [hD] at ho
    simp only [decide_eq_false (hns l hD)] at ho
    refine ho.mono ?_
    rintro e w' ⟨⟨g, cap, rfl, _⟩, hb⟩
    exact ⟨⟨_, _, _, rfl⟩, hb⟩
end Go.Proofs.YtbjfgdahfpfgdaaGreatDoor.PairG

namespace Go.Proofs.YtbjfgdahfpfgdaaGreatDoor.PairG
open Go Go.RowKit Go.Maps Go.Proofs.YtbjfgdahfpfgdaaGreatDoor.Mem Go.Proofs.YtbjfgdahfpfgdaaGreatDoor.MapsW Go.Proofs.YtbjfgdahfpfgdaaGreatDoor.SeeW Go.Proofs.YtbjfgdahfpfgdaaGreatDoor.DevG
set_option linter.unusedVariables false
set_option maxRecDepth 100000

set_option maxHeartbeats 3200000 in
theorem read_second (bs : List Addr) (lo d n : Nat) (m : Mp) (D : Dv) (p h c : Nat) (i s : Nat) (w : World) (k : PAt w lo d n m D p h c) (hB : Ev w lo bs five) (hi : i < h) (hbt : ∀ j l, D.read j = some l → Crc.Bytes l) (hns : ∀ l, D.read i = some l → Crc.sum l ≠ s) {l : List Nat} (h1 : D.read (i + h : Nat) = some l) (h2 : Crc.sum l = s) (hn : n < 850000) (hc : D.calls < 1000000) (hc2 : c < 1000000) :
    Calls Tryz.prog 56 #[ptr p, Rf i s] w (ReadTo bs w lo d n m p h (some l, D.put i l, c + 1)) := by
  have hhf := k.half
  have hmo := k.most
  have hf : Fits (i : Int) := fits_nat (by omega)
  have hd : decide (0 ≤ (i : Int) ∧ (i : Int) < h) = true := by rw [decide_eq_true_eq]; omega
  have bx := (Below.refl w.heap.size w).alloc (Nat.le_refl _) (.cells #[.int .i64 i, .int .u32 s] 111)
  obtain ⟨q0, q1⟩ := new2 w (.int .i64 i) (.int .u32 s) 111
  have kx := k.below bx
  have f1 : IntKind.i64.wrap ((i : Int) + (h : Int)) = ((i + h : Nat) : Int) := by rw [IntKind.wrap_i64]; omega
  go_enter Tryz.func56, Tryz.ntmps56
  go_wp2_with fail
  refine (is_w lo d n m D p h c i _ kx hf).mono ?_
  rintro e w' ⟨rfl, rfl⟩
  rw [hd]
  go_wp2_with fail
  refine (one_not bs lo d n m D p h c i s _ kx (hB.below bx) (by omega) (fun l hl => hbt i l hl) hns).mono ?_
  rintro e w1 ⟨⟨a1, n1, cp1, rfl⟩, hb1⟩
  have k1 := kx.below hb1
  have hB1 := (hB.below bx).below hb1
  replace q0 := kept hb1 q0
  replace q1 := kept hb1 q1
  have hb01 : Below w.heap.size w w1 := bx.trans (hb1.mono (by simp))
  obtain ⟨c0, c1, c2, c3, f3⟩ := k1.c
  clear k kx hB bx hb1
  go_wp2_with fail
  go_region_held3 (fun w' => w'.cell? ⟨w.heap.size, 0, none⟩ = some (.int .i64 i) ∧ w'.cell? ⟨w.heap.size, 1, none⟩ = some (.int .u32 s) ∧ w'.cell? ⟨p, 2, none⟩ = some (.int .i64 h)) (first | exact ⟨q0, q1, c2⟩ | exact ⟨y0, y1, y2⟩ | go_keep)
    ((go_at_call 99; refine (one_w bs lo d n m D p h c (i + h) s _ (k1.below (below_drewN (Below.refl _ _) 1)) (hB1.below (below_drewN (Below.refl _ _) 1)) (by omega) (fun l hl => hbt _ l hl)).mono ?_; rw [h1]; unfold One; simp only [h2, decide_true]; rintro e w2 ⟨⟨g, cap, rfl, hn2, hg⟩, hb2⟩; have y0 := kept hb2 q0; have y1 := kept hb2 q1; have y2 := kept hb2 c2))
  have k2 := (k1.below (below_drewN (Below.refl _ _) 1)).below hb2
  have hb02 : Below w.heap.size w w2 := (below_drewN hb01 1).trans (hb2.mono hb01.size)
  have z1 := hb01.size
  have hg' : w1.heap.size ≤ g := hg
  have hgp : g ≠ p := by
    have := (Array.getElem?_eq_some_iff.1 k1.cells).1
    omega
  have hgd : g ≠ d := by
    have := k1.dev.dlt
    omega
  obtain ⟨cc, ct, cf, hcc⟩ := nums_cells hn2 (by decide)
  have hout := k2.dev.out hcc hgd
  go_wp2_with fail
  refine (mend_w lo d n m D p h c i _ cap l _ k2 (by omega) hn2 (by omega) hc hc2).mono ?_
  rintro e w3 ⟨rfl, k3, t3⟩
  have hn3 := nums_of_cells hn2 (t3.block g (Array.getElem?_eq_some_iff.1 hcc).1 (by
    intro hm
    rcases List.mem_cons.1 hm with e | hm
    · exact hgp e
    · exact hout hm))
  have hT : Turn (p :: own d m) w w3 := (Turn.of_below hb02).then t3
  clear k1 k2 q0 q1 c0 c1 c2 c3 f3 y0 y1 y2
  go_wp2
  refine bodyPost_ret (v := .tuple #[.slice (some ⟨g, 0, none⟩) 256 cap, .nilIface]) (by simp [results, Tryz.results56, go_sem]) rfl ⟨⟨g, cap, rfl, hn3, by omega⟩, k3, hT⟩

set_option maxHeartbeats 3200000 in
theorem read_none (bs : List Addr) (lo d n : Nat) (m : Mp) (D : Dv) (p h c : Nat) (i s : Nat) (w : World) (k : PAt w lo d n m D p h c) (hB : Ev w lo bs five) (hi : i < h) (hbt : ∀ j l, D.read j = some l → Crc.Bytes l) (hns : ∀ l, D.read i = some l → Crc.sum l ≠ s) (hn2 : ∀ l, D.read (i + h : Nat) = some l → Crc.sum l ≠ s) :
    Calls Tryz.prog 56 #[ptr p, Rf i s] w (ReadTo bs w lo d n m p h (none, D, c)) := by
  have hhf := k.half
  have hmo := k.most
  have hf : Fits (i : Int) := fits_nat (by omega)
  have hd : decide (0 ≤ (i : Int) ∧ (i : Int) < h) = true := by rw [decide_eq_true_eq]; omega
  have bx := (Below.refl w.heap.size w).alloc (Nat.le_refl _) (.cells #[.int .i64 i, .int .u32 s] 111)
  obtain ⟨q0, q1⟩ := new2 w (.int .i64 i) (.int .u32 s) 111
  have kx := k.below bx
  have f1 : IntKind.i64.wrap ((i : Int) + (h : Int)) = ((i + h : Nat) : Int) := by rw [IntKind.wrap_i64]; omega
  go_enter Tryz.func56, Tryz.ntmps56
  go_wp2_with fail
  refine (is_w lo d n m D p h c i _ kx hf).mono ?_
  rintro e w' ⟨rfl, rfl⟩
  rw [hd]
  go_wp2_with fail
  refine (one_not bs lo d n m D p h c i s _ kx (hB.below bx) (by omega) (fun l hl => hbt i l hl) hns).mono ?_
  rintro e w1 ⟨⟨a1, n1, cp1, rfl⟩, hb1⟩
  have k1 := kx.below hb1
  have hB1 := (hB.below bx).below hb1
  replace q0 := kept hb1 q0
  replace q1 := kept hb1 q1
  have hb01 : Below w.heap.size w w1 := bx.trans (hb1.mono (by simp))
  obtain ⟨c0, c1, c2, c3, f3⟩ := k1.c
  clear k kx bx hb1
  go_wp2_with fail
  go_region_held3 (fun w' => w'.cell? ⟨w.heap.size, 0, none⟩ = some (.int .i64 i) ∧ w'.cell? ⟨w.heap.size, 1, none⟩ = some (.int .u32 s) ∧ w'.cell? ⟨p, 2, none⟩ = some (.int .i64 h)) (first | exact ⟨q0, q1, c2⟩ | exact ⟨y0, y1, y2⟩ | go_keep)
    ((go_at_call 99; refine (one_not bs lo d n m D p h c (i + h) s _ (k1.below (below_drewN (Below.refl _ _) 1)) (hB1.below (below_drewN (Below.refl _ _) 1)) (by omega) (fun l hl => hbt _ l hl) hn2).mono ?_; rintro e w2 ⟨⟨a2, n2, cp2, rfl⟩, hb2⟩; have y0 := kept hb2 q0; have y1 := kept hb2 q1; have y2 := kept hb2 c2))
  have k2 := (k1.below (below_drewN (Below.refl _ _) 1)).below hb2
  have hb02 : Below w.heap.size w w2 := (below_drewN hb01 1).trans (hb2.mono hb01.size)
  obtain ⟨aI, haI, hAI⟩ := (hB.below hb02).get 6 _ (by decide) rfl
  have hA1 := hAI.1
  go_wp2
  go_quiet (fail)
  go_wp2
  refine bodyPost_ret (v := .tuple #[.slice none 0 0, ev aI]) (by simp [results, Tryz.results56, go_sem]) rfl ⟨⟨aI, haI, rfl⟩, (k2.below (below_drewN (Below.refl _ _) _)).mono (by omega) (Nat.le_refl _), Turn.of_below (below_drewN hb02 _)⟩
theorem read_w (bs : List Addr) (lo d n : Nat) (m : Mp) (D : Dv) (p h c : Nat) (i s : Nat) (w : World) (k : PAt w lo d n m D p h c) (hB : Ev w lo bs five) (hi : i < h) (hbt : ∀ j l, D.read j = some l → Crc.Bytes l) (hn : n < 850000) (hc : D.calls < 1000000) (hc2 : c < 1000000) :
    Calls Tryz.prog 56 #[ptr p, Rf i s] w (ReadTo bs w lo d n m p h (readP D h c i s)) := by
  by_cases h1 : ∃ l, D.read i = some l ∧ Crc.sum l = s
  · obtain ⟨l, h1, h2⟩ := h1
    rw [readP_first h1 h2]
    exact read_first bs lo d n m D p h c i s w k hB hi hbt h1 h2
  · have hns : ∀ l, D.read i = some l → Crc.sum l ≠ s := fun l hl he => h1 ⟨l, hl, he⟩
    rw [readP_second hns]
    unfold second
    cases hD : D.read (i + h : Nat) with
    | none => exact read_none bs lo d n m D p h c i s w k hB hi hbt hns (fun l hl => by rw [hD] at hl; cases hl)
    | some l =>
      simp only
      by_cases h2 : Crc.sum l = s
      · rw [if_pos h2]
        exact read_second bs lo d n m D p h c i s w k hB hi hbt hns hD h2 hn hc hc2
      · rw [if_neg h2]
        exact read_none bs lo d n m D p h c i s w k hB hi hbt hns (fun l' hl => by rw [hD] at hl; cases hl; exact h2)

/-- whether a copy is right -/
def right (D : Dv) (j : Nat) (s : Nat) : Bool := match D.read j with
  | some l => decide (Crc.sum l = s)
  | none => false
end Go.Proofs.YtbjfgdahfpfgdaaGreatDoor.PairG

namespace Go.Proofs.YtbjfgdahfpfgdaaGreatDoor.PairG
open Go Go.RowKit Go.Maps Go.Proofs.YtbjfgdahfpfgdaaGreatDoor.Mem Go.Proofs.YtbjfgdahfpfgdaaGreatDoor.MapsW Go.Proofs.YtbjfgdahfpfgdaaGreatDoor.SeeW Go.Proofs.YtbjfgdahfpfgdaaGreatDoor.DevG
set_option linter.unusedVariables false
set_option maxRecDepth 100000

/-- both copies -/
def put2 (D : Dv) (h i : Nat) (l : List Nat) : Dv := (D.put i l).put (i + h : Nat) l
def putK (D : Dv) (h i : Nat) (l : List Nat) : Nat → Dv
  | 0 => D
  | 1 => D.put i l
  | _ => put2 D h i l
theorem putK_blocks (D : Dv) (h i : Nat) (l : List Nat) (k : Nat) : (putK D h i l k).blocks = D.blocks := by
  unfold putK; split <;> rfl
theorem putK_up (D : Dv) (h i : Nat) (l : List Nat) (k : Nat) : (putK D h i l k).down = D.down ∧ (putK D h i l k).fuse = D.fuse := by
  unfold putK; split <;> exact ⟨rfl, rfl⟩
theorem putK_calls (D : Dv) (h i : Nat) (l : List Nat) (k : Nat) : (putK D h i l k).calls ≤ D.calls + 2 := by
  unfold putK; split
  · omega
  · show D.calls + 1 ≤ _; omega
  · show D.calls + 1 + 1 ≤ _; omega

theorem PAt.nou8 {w : World} {lo d n : Nat} {m : Mp} {D : Dv} {p h c : Nat} (k : PAt w lo d n m D p h c) : ∀ x ∈ p :: own d m, ∀ off z, w.cell? ⟨x, off, none⟩ ≠ some (.int .u8 z) := by
  intro x hx off z
  rcases List.mem_cons.1 hx with rfl | hx
  · refine nou8_cells k.cells ?_ off z
    intro v hv z e
    subst e
    simp at hv
  · exact At.nou8 k.dev x hx off z

/-- what writes elsewhere leaves the pairs -/
theorem PAt.elsewhere {S : List Nat} {w w' : World} {lo d n : Nat} {m : Mp} {D : Dv} {p h c : Nat} (k : PAt w lo d n m D p h c) (ht : Turn S w w') (hS : ∀ x ∈ S, x ≠ p ∧ x ≠ d ∧ ∃ v cs t f, w.heap[x]? = some (.cells cs t f) ∧ w.cell? ⟨x, 0, none⟩ = some v ∧ ∀ z, v ≠ .int .u8 z) : PAt w' lo d n m D p h c := by
  have hp : p ∉ S := fun hm => (hS p hm).1 rfl
  refine ⟨k.dev.turn ht (fun hm => (hS d hm).2.1 rfl) (fun x hx hm => ?_) (fun x hx => ?_), ht.cells k.cells hp, k.half, k.most, k.lop, k.up, k.still⟩
  · obtain ⟨_, _, v, cs, t, f, h1, _⟩ := hS x hm
    obtain ⟨es, ck, h2⟩ := k.dev.maps x hx
    rw [h1] at h2
    cases h2
  · obtain ⟨_, _, v, cs, t, f, _, h2, h3⟩ := hS x hx
    exact .inr ⟨v, h2, h3⟩

set_option maxHeartbeats 3200000 in
theorem write_w (lo d n : Nat) (m : Mp) (D : Dv) (p h c : Nat) (i : Nat) (a : Option Addr) (cap : Nat) (l : List Nat) (w : World) (k : PAt w lo d n m D p h c) (hi : i < h) (hl : Nums .u8 w a 256 cap l) (hb : Crc.Bytes l) (hn : n < 850000) (hc : D.calls < 900000) :
    Calls Tryz.prog 90 #[ptr p, .int .i64 i, .slice a 256 cap] w fun e w' => e = .returned (.tuple #[Rf i (Crc.sum l), .nilIface]) ∧ PAt w' lo d (n + 2) m (put2 D h i l) p h c ∧ Turn (own d m) w w' := by
  have hhf := k.half
  have hmo := k.most
  have hf : Fits (i : Int) := fits_nat (by omega)
  have hd : decide (0 ≤ (i : Int) ∧ (i : Int) < h) = true := by rw [decide_eq_true_eq]; omega
  have bx := (Below.refl w.heap.size w).alloc (Nat.le_refl _) (.cells #[.int .i64 0, .int .u32 0] 111)
  have kx := k.below bx
  obtain ⟨c0, c1, c2, c3, f3⟩ := kx.c
  have f1 : IntKind.i64.wrap ((i : Int) + (h : Int)) = ((i + h : Nat) : Int) := by rw [IntKind.wrap_i64]; omega
  go_enter Tryz.func90, Tryz.ntmps90
  go_wp2_with fail
  refine (is_w lo d n m D p h c i _ kx hf).mono ?_
  rintro e w' ⟨rfl, rfl⟩
  rw [hd]
  go_wp2_with fail
  have b1 := kx.below ((Below.refl _ _).alloc (Nat.le_refl _) (.cells #[.int .i64 i, .int .i64 ((i : Int) + (h : Int))] 3))
  have r0 : (w.alloc (.cells #[.int .i64 0, .int .u32 0] 111)).heap[w.heap.size]? = some (.cells #[.int .i64 0, .int .u32 0] 111) := alloc_at rfl _
  have r1 := alloc_old (o := .cells #[.int .i64 i, .int .i64 ((i : Int) + (h : Int))] 3) r0
  have r2 : ((w.alloc (.cells #[.int .i64 0, .int .u32 0] 111)).alloc (.cells #[.int .i64 i, .int .i64 ((i : Int) + (h : Int))] 3)).heap[w.heap.size + 1]? = some (.cells #[.int .i64 i, .int .i64 ((i : Int) + (h : Int))] 3) := alloc_at (by simp) _
  have bb : Below w.heap.size w ((w.alloc (.cells #[.int .i64 0, .int .u32 0] 111)).alloc (.cells #[.int .i64 i, .int .i64 ((i : Int) + (h : Int))] 3)) := bx.alloc (by simp) _
  have hl2 := hl.below bb
  have sz : ((w.alloc (.cells #[.int .i64 0, .int .u32 0] 111)).alloc (.cells #[.int .i64 i, .int .i64 ((i : Int) + (h : Int))] 3)).heap.size = w.heap.size + 2 := by simp
  have hdw := k.dev.dlt
  generalize (w.alloc (.cells #[.int .i64 0, .int .u32 0] 111)).alloc (.cells #[.int .i64 i, .int .i64 ((i : Int) + (h : Int))] 3) = wS at *
  clear kx bx c0 c1 c2 c3 f3 r0 hl
  go_loopw [27] (fun jv wr => ∃ j : Nat, j ≤ 2 ∧ jv = .int .i64 j ∧ PAt wr lo d (n + j) m (putK D h i l j) p h c ∧ Turn (own d m) wS wr ∧ Nums .u8 wr a 256 cap l ∧ wr.heap[w.heap.size]? = some (.cells #[.int .i64 0, .int .u32 0] 111) ∧ wr.heap[w.heap.size + 1]? = some (.cells #[.int .i64 i, .int .i64 ((i : Int) + (h : Int))] 3)) (fun jv _ => 2 - (RowKit.intOf jv).toNat)
  case atStart => exact ⟨0, by omega, rfl, b1, Turn.refl _ _, hl2, r1, r2⟩
  case round =>
    clear b1 r1 r2 hl2
    obtain ⟨j, hj, rfl, kr, tr, hl, r1, r2⟩ := hrel
    obtain ⟨c0, c1, c2, c3, f3⟩ := kr.c
    rw [putK_blocks] at c1
    by_cases hlt : j < 2
    · have hcell : ∃ q : Nat, wr.cell? ⟨w.heap.size + 1, j, none⟩ = some (.int .i64 (q : Int)) ∧ q < D.blocks ∧ (putK D h i l j).put q l = putK D h i l (j + 1) := by
        rcases (by omega : j = 0 ∨ j = 1) with rfl | rfl
        · exact ⟨i, by simp [World.cell?, r2], by omega, rfl⟩
        · exact ⟨i + h, by simp [World.cell?, r2], by omega, rfl⟩
      obtain ⟨q, hq, hqb, hqe⟩ := hcell
      go_wp2_with fail
      refine (write_q d lo (n + j) m _ q a cap l _ kr.dev (by rw [putK_blocks]; exact hqb) (by rw [putK_blocks]; exact hmo) hl (by omega) (by have := putK_calls D h i l j; omega) ((putK_up D h i l j).1.trans k.up) ((putK_up D h i l j).2.trans k.still)).mono ?_
      rintro e w3 ⟨rfl, h3, t3⟩
      rw [hqe] at h3
      have k3 := kr.turn h3 t3 (by rw [putK_blocks, putK_blocks]) ((putK_up D h i l (j + 1)).1.trans k.up) ((putK_up D h i l (j + 1)).2.trans k.still)
      have hl3 := nums_turn hl t3 (At.nou8 kr.dev)
      have s1 := t3.cells r1 (kr.dev.out r1 (by omega))
      have s2 := t3.cells r2 (kr.dev.out r2 (by omega))
      clear c0 c1 c2 c3 f3
      go_wp2_with fail
      go_roundw
      case rel => exact ⟨j + 1, by omega, by go_num, k3, tr.then t3, hl3, s1, s2⟩
      case measure => simp [RowKit.intOf]; omega
    · obtain rfl : j = 2 := by omega
      go_wp2_with fail
      refine (CrcW.sum_w a 256 cap l _ hl hb).mono ?_
      rintro e w3 ⟨rfl, rfl⟩
      have hx1 : wr.cell? ⟨w.heap.size, 0, none⟩ = some (.int .i64 0) ∧ wr.cell? ⟨w.heap.size, 1, none⟩ = some (.int .u32 0) ∧ wr.frozen? ⟨w.heap.size, 0, none⟩ = false ∧ wr.frozen? ⟨w.heap.size, 1, none⟩ = false := by
        simp [World.cell?, World.frozen?, r1]
      obtain ⟨x1, x2, x3, x4⟩ := hx1
      have hpw : p < w.heap.size := (Array.getElem?_eq_some_iff.1 k.cells).1
      have hfin : ∀ (u v : Value), Turn [w.heap.size] wr ((wr.setCell ⟨w.heap.size, 0, none⟩ u).setCell ⟨w.heap.size, 1, none⟩ v) := fun u v =>
        (Turn.setCell wr _ _ _ (by simp)).then (Turn.setCell _ _ _ _ (by simp))
      have hk := fun u v => kr.elsewhere (hfin u v) (fun x hx => by
        rw [List.mem_singleton.1 hx]
        exact ⟨by omega, by omega, _, _, _, _, r1, x1, fun z e => by cases e⟩)
      have hT : ∀ u v, Turn (own d m) w ((wr.setCell ⟨w.heap.size, 0, none⟩ u).setCell ⟨w.heap.size, 1, none⟩ v) := fun u v =>
        ((Turn.of_below bb).then tr).trans (hfin u v) (fun x hx => by rw [List.mem_singleton.1 hx]; exact .inr (Nat.le_refl _))
      generalize hs : Crc.sum l = s at *
      have HS := hid hs
      have HK := hid hk
      have HT := hid hT
      clear hk hT kr tr hfin c0 c1 c2 c3 f3 r1 r2 hs
      go_wp2
      refine bodyPost_ret (v := .tuple #[Rf i s, .nilIface]) (by simp [results, Tryz.results90, go_sem, x1, x2]) rfl ⟨by rw [HS.out], HK.out _ _, HT.out _ _⟩
end Go.Proofs.YtbjfgdahfpfgdaaGreatDoor.PairG
