/- The keys of a map of rows, rising: slices.Sorted of maps.Keys. -/
import Derived.Test.YtagbnacffiagcaaDoorShelf
import Derived.Test.YtagbnacffiagcaaDoorMaps
namespace Go.Proofs.YtagbnacffiagcaaDoor.MapsW
open Go Go.RowKit Go.Maps Go.Sort Go.Shelf Go.Proofs Go.Proofs.YtagbnacffiagcaaDoor.Mem
set_option linter.unusedVariables false
set_option maxRecDepth 100000

theorem keys_w (mb : Option Nat) (w : World) : Calls Tryd.prog 99 #[.map mb] w fun e w' => e = .returned (.func (.func 120) #[] #[.pointer (some ⟨w.heap.size, 0, none⟩)]) ∧ w' = w.alloc (.cells #[.map mb] 120) :=
  (callsIn_wide (n := 5)).1 (AnyZI.keys_in Tryd.keysA Fence.wide 5 trivial rfl mb w)
theorem sorts_in (m : Nat) : AnyZI.SortsIn Tryd.prog Tryd.sortedA_ren Fence.wide m :=
  ⟨fun blk off cap ss W hH hblk hsz => callsIn_wide.2 (AnyM.slices_Sort_int Tryd.sortA blk off cap ss W hH hblk hsz),
   fun p cap W => callsIn_wide.2 (AnyM.slices_Sort_int_none Tryd.sortA p cap W)⟩
theorem sorted_w {H : Type} (b nn Bm : Nat) (D0 : DataW H) (R : Value → Option (DataW H × List MemPlace)) (w : World) (hBm : Bm < w.heap.size) (hm : w.cell? ⟨Bm, 0, none⟩ = some (.map (some b))) (hown : w.ownsMap Tryd.prog 3 R b nn D0) (hmax : Maps.size D0 ≤ 1000000) :
    Calls Tryd.prog 98 #[.func (.func 120) #[] #[.pointer (some ⟨Bm, 0, none⟩)]] w fun e w' => ∃ (v : Value) (ss : List Int), e = .returned v ∧ ss.Perm (intKeys D0) ∧
      w'.ownsRow w.heap.size 3 1 v ss.length ((ss.mergeSort (fun x y => decide (x ≤ y))).map encZ) ∧ (v = .slice none 0 0 ↔ ss = []) ∧ Below w.heap.size w w' := by
  have hseq : SeqGives Fence.wide 2 Tryd.prog 120 #[.pointer (some ⟨Bm, 0, none⟩)] encZ (fun ss => ss.Perm (intKeys D0)) (Maps.size D0) w :=
    AnyZI.keys_gives (ρ := Tryd.keysA_ren) { Tryd.keysA with } Fence.wide _ trivial rfl (by omega) Bm b nn D0 _ hBm hm hown
  have cS := AnyZI.sorted_in Tryd.sortedA Fence.wide 5 trivial trivial trivial trivial rfl (by omega) (sorts_in _) (enters_of Tryd.func119 (by kernel_rfl) rfl) 120 #[.pointer (some ⟨Bm, 0, none⟩)] trivial (enters_of Tryd.func120 (by kernel_rfl) rfl) _ _ (by unfold maxLen; omega) (by omega) _ hseq
  exact callsIn_wide.1 cS
/-- what a map of rows has keys at: rising -/
structure Keys (F : Int → Option (List Nat)) (ks : List Int) : Prop where
  rise : ks.Pairwise (· < ·)
  mem : ∀ i, i ∈ ks ↔ (F i).isSome = true
  fit : ∀ i ∈ ks, Fits i
theorem intKeys_is {H : Type} {w : World} {b n : Nat} {D : DataW H} {R : Value → Option (DataW H × List MemPlace)} (h : w.ownsMap Tryd.prog 3 R b n D) : (intKeys D).Nodup ∧ ∀ x, x ∈ intKeys D ↔ Maps.has D (.int .i64 x) = true := by
  obtain ⟨es, rfl, hpw, _⟩ := h.entries law
  obtain ⟨es', hD', hko⟩ := h.keysOf
  obtain rfl : es = es' := by simpa using hD'
  have hk : ∀ p ∈ es, ∃ x, p.1 = .int .i64 x := fun p hp => by
    obtain ⟨v, hv⟩ := hko p hp
    obtain ⟨x, _, hx, _⟩ := Maps.keyOf_i64 Tryd.underlying3 hv
    exact ⟨x, hx⟩
  constructor
  · show (es.map fun p => Go.intOf p.1).Nodup
    refine List.pairwise_map.2 (hpw.imp_of_mem fun {p q} hp' hq' hne e => hne ?_)
    obtain ⟨a, ha⟩ := hk p hp'
    obtain ⟨b, hb⟩ := hk q hq'
    rw [ha, hb] at e ⊢
    exact congrArg _ e
  · intro x
    rw [has_eq, List.any_eq_true]
    show x ∈ es.map (fun p => Go.intOf p.1) ↔ _
    rw [List.mem_map]
    constructor
    · rintro ⟨p, hp', rfl⟩
      obtain ⟨a, ha⟩ := hk p hp'
      exact ⟨p, hp', by rw [ha]; simp [Lit.sameKey, Go.intOf]⟩
    · rintro ⟨p, hp', hs⟩
      obtain ⟨a, ha⟩ := hk p hp'
      rw [ha] at hs
      exact ⟨p, hp', by rw [ha]; simpa [Lit.sameKey, Go.intOf] using hs⟩
/-- slices.Sorted of a map's keys -/
theorem keys_sorted (b n Bm base np : Nat) (F : Int → Option (List Nat)) (w : World) (hBm : Bm < w.heap.size) (hm : w.cell? ⟨Bm, 0, none⟩ = some (.map (some b))) (h : RowMap w base b n F np) (hnp : np ≤ 1000000) :
    Calls Tryd.prog 98 #[.func (.func 120) #[] #[.pointer (some ⟨Bm, 0, none⟩)]] w fun e w' => ∃ (v : Value) (ks : List Int), e = .returned v ∧ Keys F ks ∧ ks.length = np ∧
      w'.ownsRow w.heap.size 3 1 v ks.length (ks.map fun z => .int .i64 z) ∧ Below w.heap.size w w' := by
  obtain ⟨D, h1, h2, h3⟩ := h
  obtain ⟨k1, k2⟩ := intKeys_is h1
  refine (sorted_w b n Bm D rowR w hBm hm h1 (by omega)).mono ?_
  rintro e w' ⟨v, ss, rfl, hp, ho, _, hb⟩
  have hle : ∀ a b c : Int, decide (a ≤ b) = true → decide (b ≤ c) = true → decide (a ≤ c) = true := fun a b c x y => by
    simp only [decide_eq_true_eq] at *; omega
  have hto : ∀ a b : Int, (decide (a ≤ b) || decide (b ≤ a)) = true := fun a b => by
    simp only [Bool.or_eq_true, decide_eq_true_eq]; omega
  have hs := List.pairwise_mergeSort hle hto ss
  have hpm := List.mergeSort_perm ss (fun x y => decide (x ≤ y))
  have hnd : (ss.mergeSort fun x y => decide (x ≤ y)).Nodup := (hpm.trans hp).nodup_iff.2 k1
  refine ⟨v, ss.mergeSort (fun x y => decide (x ≤ y)), rfl, ⟨?_, fun i => ?_, fun i hi => int_of (intKeys_wf h1 Tryd.underlying3 i ((hpm.trans hp).mem_iff.1 hi))⟩, ?_, ?_, hb⟩
  · refine (hs.and hnd).imp fun {a b} q => ?_
    have := q.1
    simp only [decide_eq_true_eq] at this
    have := q.2
    omega
  · rw [(hpm.trans hp).mem_iff, k2]
    have := h3 i
    cases hF : F i with
    | none => rw [hF] at this; rw [this]; rfl
    | some l => rw [hF] at this; rw [this.1]; rfl
  · rw [hpm.length_eq, hp.length_eq, ← h2]
    obtain ⟨es, hD, _⟩ := h1.tidy law
    rw [hD]; simp [intKeys, Maps.size]
  · rw [hpm.length_eq]
    exact ho
end Go.Proofs.YtagbnacffiagcaaDoor.MapsW
