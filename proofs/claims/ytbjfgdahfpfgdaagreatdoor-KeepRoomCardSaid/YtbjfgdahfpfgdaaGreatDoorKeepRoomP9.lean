/- Maps of rows and of places: stores, deletes, sizes; The keys of a store's maps; One copy of a pair read; A pair read where the first copy is not right; A pair written; pairs opened; The walk of root.Save. -/
import Derived.Test.YtbjfgdahfpfgdaaGreatDoorKeepRoomP5
import Derived.Test.YtbjfgdahfpfgdaaGreatDoorKeepRoomP6
import Derived.Test.YtbjfgdahfpfgdaaGreatDoorKeepRoomP7
import Derived.Lib.SlKeysI
import Derived.Sort.KeysCollected
import Derived.Test.YtbjfgdahfpfgdaaGreatDoorKeepRoomP8
import Derived.Test.YtbjfgdahfpfgdaaGreatDoorKeepRoomP4
import Derived.Test.YtbjfgdahfpfgdaaGreatDoorKeepRoomP3
import Derived.LaidEql
import Derived.LaidEqlPtr
import Derived.Deep.RegionHeld3
namespace Go.Proofs.YtbjfgdahfpfgdaaGreatDoor.MapsW
open Go Go.RowKit Go.Maps Go.Proofs.YtbjfgdahfpfgdaaGreatDoor.Mem
set_option linter.unusedVariables false
set_option maxRecDepth 100000

theorem NowMap.mono {w : World} {base base' b n n' k : Nat} {F : Int → Option (List Nat)} (h : NowMap w base b n F k) (hn : n ≤ n') (hb : base' ≤ base) : NowMap w base' b n' F k := by
  obtain ⟨D, h1, h2, h3⟩ := h
  refine ⟨D, h1.mono hn, h2, fun i => ?_⟩
  have := h3 i
  cases hF : F i with
  | none => rw [hF] at this; exact this
  | some l =>
    cases l with
    | nil => rw [hF] at this; exact this
    | cons x l =>
      rw [hF] at this
      obtain ⟨a, g, cap, b1, b2, b3⟩ := this
      exact ⟨a, g, cap, b1, b2, by omega⟩
theorem now_rows {w w' : World} {b g cap : Nat} {x : Nat} {l : List Nat} (hgw : w.grownBy w' (some b)) (hb : ∃ es ck, w.heap[b]? = some (.map es ck)) (hn : Nums .u8 w (some ⟨g, 0, none⟩) (l.length + 1) cap (x :: l)) : Nums .u8 w' (some ⟨g, 0, none⟩) (l.length + 1) cap (x :: l) := by
  obtain ⟨c, t, f, hc⟩ := nums_cells hn (by omega)
  refine nums_of_cells hn (hgw.block g (Array.getElem?_eq_some_iff.1 hc).1 fun e => ?_)
  obtain ⟨es, ck, hm⟩ := hb
  rw [Option.some.inj e] at hc
  rw [hm] at hc
  cases hc
/-- how an element of such a map reads -/
def NowIs (w : World) (base : Nat) (D : DataW Unit) (i : Int) : Option (List Nat) → Prop
  | none => Maps.has D (.int .i64 i) = false
  | some [] => Maps.has D (.int .i64 i) = true ∧ ∀ z, D.atKey (.int .i64 i) z = .nil
  | some (x :: l) => Maps.has D (.int .i64 i) = true ∧ ∃ g cap, (∀ z, D.atKey (.int .i64 i) z = rowd g (l.length + 1) cap) ∧ Nums .u8 w (some ⟨g, 0, none⟩) (l.length + 1) cap (x :: l) ∧ base ≤ g
theorem NowMap.of {w : World} {base b n k : Nat} {F : Int → Option (List Nat)} (D : DataW Unit) (h1 : w.ownsMap Tryz.prog 3 rowR b n D) (h2 : Maps.size D = k) (h3 : ∀ i, NowIs w base D i (F i)) : NowMap w base b n F k := by
  refine ⟨D, h1, h2, fun i => ?_⟩
  have := h3 i
  cases hF : F i with
  | none => rw [hF] at this; exact this
  | some l =>
    cases l with
    | nil => rw [hF] at this; exact this
    | cons x l => rw [hF] at this; exact this
theorem NowMap.is {w : World} {base b n k : Nat} {F : Int → Option (List Nat)} (h : NowMap w base b n F k) : ∃ D, w.ownsMap Tryz.prog 3 rowR b n D ∧ Maps.size D = k ∧ ∀ i, NowIs w base D i (F i) := by
  obtain ⟨D, h1, h2, h3⟩ := h
  refine ⟨D, h1, h2, fun i => ?_⟩
  have := h3 i
  cases hF : F i with
  | none => rw [hF] at this; exact this
  | some l =>
    cases l with
    | nil => rw [hF] at this; exact this
    | cons x l => rw [hF] at this; exact this
theorem NowIs.has {w : World} {base : Nat} {D : DataW Unit} {i : Int} {o : Option (List Nat)} (h : NowIs w base D i o) : Maps.has D (.int .i64 i) = o.isSome := by
  match o, h with
  | none, h => exact h
  | some [], h => exact h.1
  | some (x :: l), h => exact h.1
theorem NowIs.other {w w' : World} {base b : Nat} {D : DataW Unit} {i j : Int} {o : Option (List Nat)} {y : DataW Unit} (h : NowIs w base D j o) (hj : j ≠ i) (hgw : w.grownBy w' (some b)) (hb : ∃ es ck, w.heap[b]? = some (.map es ck)) : NowIs w' base (D.put (.int .i64 i) y) j o := by
  match o, h with
  | none, h => exact (has_put_other (litne hj) _).trans h
  | some [], h => exact ⟨(has_put_other (litne hj) _).trans h.1, fun z => (atKey_put_other (litne hj) _ z).trans (h.2 z)⟩
  | some (x :: l), ⟨a, g, cap, b1, b2, b3⟩ => exact ⟨(has_put_other (litne hj) _).trans a, g, cap, fun z => (atKey_put_other (litne hj) _ z).trans (b1 z), now_rows hgw hb b2, b3⟩
/-- 'm[i] = b' -/
theorem NowMap.store {w : World} {base b n k : Nat} {F : Int → Option (List Nat)} (h : NowMap w base b n F k) (hn : n < 1000000) {i : Int} (hi : Fits i) {g cap x : Nat} {l : List Nat} (hl : Nums .u8 w (some ⟨g, 0, none⟩) (l.length + 1) cap (x :: l)) (hbg : base ≤ g) :
    ∃ w', (Instr.mapUpdate 91 (.map (some b)) (.int .i64 i) (.slice (some ⟨g, 0, none⟩) (l.length + 1) cap)).run Tryz.prog w = .ok () w' ∧ NowMap w' base b (n + 1) (upd F i (some (x :: l))) (if (F i).isSome then k else k + 1) ∧ w.grownBy w' (some b) := by
  have hb := h.block
  obtain ⟨D, h1, h2, h3⟩ := h.is
  obtain ⟨w', hr, ho, hgw⟩ := h1.update law Tryz.underlying91 (by unfold maxLen; omega) (key hi) (rowR_mk g (l.length + 1) cap)
  have hT := h1.tidy law
  refine ⟨w', hr, NowMap.of _ ho ?_ fun j => ?_, hgw⟩
  · rw [size_put hT, h2, (h3 i).has]
  · by_cases hj : j = i
    · subst hj
      rw [upd_same]
      exact ⟨has_put_same hT.isMap (islit j) _, g, cap, fun z => atKey_put_same hT.isMap (islit j) _ z, now_rows hgw hb hl, hbg⟩
    · rw [upd_other _ _ hj]
      exact (h3 j).other hj hgw hb
/-- 'm[i] = nil' -/
theorem NowMap.storeNil {w : World} {base b n k : Nat} {F : Int → Option (List Nat)} (h : NowMap w base b n F k) (hn : n < 1000000) {i : Int} (hi : Fits i) :
    ∃ w', (Instr.mapUpdate 91 (.map (some b)) (.int .i64 i) (.slice none 0 0)).run Tryz.prog w = .ok () w' ∧ NowMap w' base b (n + 1) (upd F i (some [])) (if (F i).isSome then k else k + 1) ∧ w.grownBy w' (some b) := by
  have hb := h.block
  obtain ⟨D, h1, h2, h3⟩ := h.is
  obtain ⟨w', hr, ho, hgw⟩ := h1.update law Tryz.underlying91 (by unfold maxLen; omega) (key hi) (show rowR (.slice none 0 0) = some (.nil, []) from rfl)
  have hT := h1.tidy law
  refine ⟨w', hr, NowMap.of _ ho ?_ fun j => ?_, hgw⟩
  · rw [size_put hT, h2, (h3 i).has]
  · by_cases hj : j = i
    · subst hj
      rw [upd_same]
      exact ⟨has_put_same hT.isMap (islit j) _, fun z => atKey_put_same hT.isMap (islit j) _ z⟩
    · rw [upd_other _ _ hj]
      exact (h3 j).other hj hgw hb
/-- 'm[i]' -/
theorem NowMap.look_none {w : World} {base b n k : Nat} {F : Int → Option (List Nat)} (h : NowMap w base b n F k) {i : Int} (hi : Fits i) (hF : (F i).getD [] = []) :
    (Instr.lookup 91 (.map (some b)) (.int .i64 i) false).run Tryz.prog w = .ok (.slice none 0 0) w := by
  obtain ⟨D, h1, _, h3⟩ := h.is
  have := h3 i
  obtain ⟨v, ps, hr, hv⟩ := h1.lookup law Tryz.underlying91 (zeroRow w) (zd := .nil) (zp := []) rfl (key hi)
  have e : D.atKey (.int .i64 i) .nil = .nil := by
    cases hF' : F i with
    | none => rw [hF'] at this; exact atKey_of_not_has this _
    | some l =>
      rw [hF'] at this hF
      obtain rfl : l = [] := hF
      exact this.2 _
  rw [e] at hv
  rw [rowR_nil hv] at hr
  exact hr
theorem NowMap.look_some {w : World} {base b n k : Nat} {F : Int → Option (List Nat)} (h : NowMap w base b n F k) {i : Int} (hi : Fits i) {x : Nat} {l : List Nat} (hF : F i = some (x :: l)) :
    ∃ g cap, (Instr.lookup 91 (.map (some b)) (.int .i64 i) false).run Tryz.prog w = .ok (.slice (some ⟨g, 0, none⟩) (l.length + 1) cap) w ∧ Nums .u8 w (some ⟨g, 0, none⟩) (l.length + 1) cap (x :: l) ∧ base ≤ g := by
  obtain ⟨D, h1, _, h3⟩ := h.is
  have := h3 i
  rw [hF] at this
  obtain ⟨a, g, cap, b1, b2, b3⟩ := this
  obtain ⟨v, ps, hr, hv⟩ := h1.lookup law Tryz.underlying91 (zeroRow w) (zd := .nil) (zp := []) rfl (key hi)
  rw [b1] at hv
  rw [rowR_row hv] at hr
  exact ⟨g, cap, hr, b2, b3⟩
theorem NowMap.len {w : World} {base b n k : Nat} {F : Int → Option (List Nat)} (h : NowMap w base b n F k) : ∃ D : DataW Unit, w.ownsMap Tryz.prog 3 rowR b n D ∧ Maps.size D = k := by
  obtain ⟨D, h1, h2, _⟩ := h
  exact ⟨D, h1, h2⟩
/-- the keys of a map -/
theorem ikeys_is {H : Type} {w : World} {b n : Nat} {D : DataW H} {R : Value → Option (DataW H × List MemPlace)} (h : w.ownsMap Tryz.prog 3 R b n D) : (intKeys D).Nodup ∧ (intKeys D).length = Maps.size D ∧ ∀ x, x ∈ intKeys D ↔ Maps.has D (.int .i64 x) = true := by
  obtain ⟨es, rfl, hpw⟩ := h.tidy law
  obtain ⟨es', hD', hko⟩ := h.keysOf
  obtain rfl : es = es' := by simpa using hD'
  have hk : ∀ p ∈ es, ∃ x, p.1 = .int .i64 x := fun p hp => by
    obtain ⟨v, hv⟩ := hko p hp
    obtain ⟨x, _, hx, _⟩ := Maps.keyOf_i64 Tryz.underlying3 hv
    exact ⟨x, hx⟩
  refine ⟨?_, by simp [intKeys, Maps.size], fun x => ?_⟩
  · show (es.map fun p => Go.intOf p.1).Nodup
    refine List.pairwise_map.2 (hpw.imp_of_mem fun {p q} hp' hq' hne e => hne ?_)
    obtain ⟨a, ha⟩ := hk p hp'
    obtain ⟨b, hb⟩ := hk q hq'
    rw [ha, hb] at e ⊢
    exact congrArg _ e
  · rw [has_eq, List.any_eq_true]
    show x ∈ es.map (fun p => Go.intOf p.1) ↔ _
    rw [List.mem_map]
    constructor
    · rintro ⟨p, hp', rfl⟩
      obtain ⟨a, ha⟩ := hk p hp'
      exact ⟨p, hp', by rw [ha]; simp [Lit.sameKey, Go.intOf]⟩
    · rintro ⟨p, hp', hs⟩
      obtain ⟨a, ha⟩ := hk p hp'
      rw [ha] at hs
      exact ⟨p, hp', by rw [ha]; simpa [Lit.sameKey, Go.intOf] using hs⟩
theorem cnt_of {α : Type} {F : Int → Option α} (hd : ∀ i, (F i).isSome = true → 0 ≤ i ∧ i < 256) {l : List Int} (hn : l.Nodup) (hm : ∀ i, i ∈ l ↔ (F i).isSome = true) : l.length = PgP.cnt F := by
  have hp : l.Perm (((List.range 256).filter fun (p : Nat) => (F (p : Int)).isSome).map fun (p : Nat) => (p : Int)) := by
    refine (List.perm_ext_iff_of_nodup hn ?_).2 fun i => ?_
    · exact List.pairwise_map.2 ((List.nodup_range.filter _).imp fun {a b} h e => h (Int.natCast_inj.1 e))
    · rw [hm, List.mem_map]
      constructor
      · intro h
        obtain ⟨h1, h2⟩ := hd i h
        exact ⟨i.toNat, List.mem_filter.2 ⟨List.mem_range.2 (by omega), by rw [show ((i.toNat : Nat) : Int) = i by omega]; exact h⟩, by omega⟩
      · rintro ⟨p, hp, rfl⟩
        exact (List.mem_filter.1 hp).2
  rw [hp.length_eq, List.length_map]
  unfold PgP.cnt
  rw [List.countP_eq_length_filter]
theorem NowMap.cnt {w : World} {base b n k : Nat} {F : Int → Option (List Nat)} (h : NowMap w base b n F k) (hd : ∀ i, (F i).isSome = true → 0 ≤ i ∧ i < 256) : k = PgP.cnt F := by
  obtain ⟨D, h1, h2, h3⟩ := h.is
  obtain ⟨k1, k2, k3⟩ := ikeys_is h1
  rw [← h2, ← k2]
  exact cnt_of hd k1 fun i => by rw [k3, (h3 i).has]
theorem RefMap.has {w : World} {b n k : Nat} {F : Int → Option (Int × Nat)} {D : DataW Unit} (h3 : ∀ i, match F i with
      | none => Maps.has D (.int .i64 i) = false
      | some r => Maps.has D (.int .i64 i) = true ∧ ∀ z, D.atKey (.int .i64 i) z = refd r.1 (r.2 : Int)) (i : Int) : Maps.has D (.int .i64 i) = (F i).isSome := by
  have := h3 i
  cases hF : F i with
  | none => rw [hF] at this; exact this
  | some r => rw [hF] at this; exact this.1
theorem RefMap.cnt {w : World} {b n k : Nat} {F : Int → Option (Int × Nat)} (h : RefMap w b n F k) (hd : ∀ i, (F i).isSome = true → 0 ≤ i ∧ i < 256) : k = PgP.cnt F := by
  obtain ⟨D, h1, h2, h3⟩ := h
  obtain ⟨k1, k2, k3⟩ := ikeys_is h1
  rw [← h2, ← k2]
  exact cnt_of hd k1 fun i => by rw [k3, RefMap.has (w := w) (b := b) (n := n) (k := k) h3]
/-- 'm[i] = r' -/
theorem RefMap.store {w : World} {b n k : Nat} {F : Int → Option (Int × Nat)} (h : RefMap w b n F k) (hn : n < 1000000) {i : Int} (hi : Fits i) (r : Int × Nat) :
    ∃ w', (Instr.mapUpdate 90 (.map (some b)) (.int .i64 i) (refV r)).run Tryz.prog w = .ok () w' ∧ RefMap w' b (n + 1) (upd F i (some r)) (if (F i).isSome then k else k + 1) ∧ w.grownBy w' (some b) := by
  obtain ⟨D, h1, h2, h3⟩ := h
  have hh := RefMap.has (w := w) (b := b) (n := n) (k := k) h3
  obtain ⟨w', hr, ho, hgw⟩ := h1.update law Tryz.underlying90 (by unfold maxLen; omega) (key hi) (refR_mk r)
  have hT := h1.tidy law
  refine ⟨w', hr, ⟨_, ho, ?_, fun j => ?_⟩, hgw⟩
  · rw [size_put hT, h2, hh]
  · by_cases hj : j = i
    · subst hj
      rw [upd_same]
      exact ⟨has_put_same hT.isMap (islit j) _, fun z => atKey_put_same hT.isMap (islit j) _ z⟩
    · rw [upd_other _ _ hj]
      have := h3 j
      cases hF : F j with
      | none => rw [hF] at this; exact (has_put_other (litne hj) _).trans this
      | some l' =>
        rw [hF] at this
        exact ⟨(has_put_other (litne hj) _).trans this.1, fun z => (atKey_put_other (litne hj) _ z).trans (this.2 z)⟩
theorem wpList_delRef (w : World) {ops : Array Oper} {rest : List Oper} {o : Oper} {a : Act} {Q : Exit → Act → World → Prop} (hg : o.guard = none) (m x : Operand) (hop : o.op = Op.call { callee := Callee.builtin Builtin.delete, args := #[m, x], argTypes := #[90, 3] })
    {b n k : Nat} {F : Int → Option (Int × Nat)} (h : RefMap w b n F k) {i : Int} (hi : Fits i)
    (hm : a.eval m = .map (some b)) (hx : a.eval x = .int .i64 i)
    (hK : ∀ w', RefMap w' b n (upd F i none) (if (F i).isSome then k - 1 else k) → w.grownBy w' (some b) → wpList Tryz.prog ops Q rest (a.put o.dst (.tuple #[])) w') : wpList Tryz.prog ops Q (o :: rest) a w := by
  obtain ⟨D, h1, h2, h3⟩ := h
  have hh := RefMap.has (w := w) (b := b) (n := n) (k := k) h3
  refine wpList_delete_own w hg m x _ _ hop 111 law Tryz.underlying90 _ b n D hm h1 _ _ hx (key hi) fun w' ho hgw => ?_
  refine hK w' ⟨_, ho, ?_, fun j => ?_⟩ hgw.grown
  · have hs := size_del (k := .int .i64 i) (h1.tidy law)
    rw [h2, hh] at hs
    cases hF : (F i).isSome with
    | false => rw [hF] at hs; simpa using hs
    | true => rw [hF] at hs; simp at hs ⊢; omega
  · by_cases hj : j = i
    · subst hj
      rw [upd_same]
      exact has_del_same
    · rw [upd_other _ _ hj]
      have := h3 j
      cases hF : F j with
      | none => rw [hF] at this; exact (has_del_other (litne hj)).trans this
      | some l' =>
        rw [hF] at this
        exact ⟨(has_del_other (litne hj)).trans this.1, fun z => (atKey_del_other (litne hj) z).trans (this.2 z)⟩
end Go.Proofs.YtbjfgdahfpfgdaaGreatDoor.MapsW

namespace Go.Proofs.YtbjfgdahfpfgdaaGreatDoor.PgW
open Go Go.RowKit Go.Maps Go.Sort Go.Shelf Go.Proofs Go.Proofs.YtbjfgdahfpfgdaaGreatDoor.Mem Go.Proofs.YtbjfgdahfpfgdaaGreatDoor.MapsW Go.Proofs.YtbjfgdahfpfgdaaGreatDoor.PgP Go.Proofs.YtbjfgdahfpfgdaaGreatDoor.Ints Go.Proofs.YtbjfgdahfpfgdaaGreatDoor.SortW Go.Proofs.YtbjfgdahfpfgdaaGreatDoor.RefsW
set_option linter.unusedVariables false
set_option maxRecDepth 100000

theorem cast_rise {l : List Nat} (h : l.Pairwise (· < ·)) : (l.map fun (p : Nat) => (p : Int)).Pairwise (· < ·) := List.pairwise_map.2 (h.imp fun h => by omega)
/-- slices.Sorted of the keys of what was changed -/
theorem now_sorted (b n Bm base k : Nat) (N : Int → Option (List Nat)) (w : World) (hBm : Bm < w.heap.size) (hm : w.cell? ⟨Bm, 0, none⟩ = some (.map (some b))) (h : NowMap w base b n N k) (hd : ∀ i, (N i).isSome = true → 0 ≤ i ∧ i < 256) :
    Calls Tryz.prog 62 #[.func (.func 103) #[] #[.pointer (some ⟨Bm, 0, none⟩)]] w fun e w' => ∃ (v : Value), e = .returned v ∧
      w'.ownsRow w.heap.size 3 1 v (keys N).length (nums .i64 (keys N)) ∧ Below w.heap.size w w' := by
  have hk := h.cnt hd
  obtain ⟨D, h1, h2, h3⟩ := h.is
  obtain ⟨k1, k0, k2⟩ := ikeys_is h1
  have hc : cnt N ≤ 256 := by
    unfold cnt
    have := List.countP_le_length (p := fun (p : Nat) => (N (p : Int)).isSome) (l := List.range 256)
    simpa using this
  refine (sorted_w b n Bm D rowR w hBm hm h1 (by omega)).mono ?_
  rintro e w' ⟨v, ss, rfl, hp, ho, _, hb⟩
  have hpm := List.mergeSort_perm ss (fun x y => decide (x ≤ y))
  have hnd : (ss.mergeSort fun x y => decide (x ≤ y)).Nodup := (hpm.trans hp).nodup_iff.2 k1
  have e1 : (ss.mergeSort fun x y => decide (x ≤ y)) = (keys N).map fun (p : Nat) => (p : Int) := by
    refine rise_eq (((sorted_le ss).and hnd).imp fun q => by have := q.1; have := q.2; omega) (cast_rise (List.pairwise_lt_range.filter _)) fun x => ?_
    rw [(hpm.trans hp).mem_iff, k2, (h3 x).has, List.mem_map]
    constructor
    · intro hx
      obtain ⟨d1, d2⟩ := hd x hx
      exact ⟨x.toNat, mem_keys.2 ⟨by omega, by rw [show ((x.toNat : Nat) : Int) = x by omega]; exact hx⟩, by omega⟩
    · rintro ⟨p, hp, rfl⟩
      exact (mem_keys.1 hp).2
  rw [e1] at ho
  have e2 : ss.length = (keys N).length := by
    have := congrArg List.length e1
    rw [hpm.length_eq, List.length_map] at this
    exact this
  rw [e2] at ho
  refine ⟨v, rfl, ?_, hb⟩
  rw [List.map_map] at ho
  exact ho
/-- maps.Keys of the pages' places -/
theorem rkeys_w (mb : Option Nat) (w : World) : Calls Tryz.prog 87 #[.map mb] w fun e w' => e = .returned (.func (.func 120) #[] #[.pointer (some ⟨w.heap.size, 0, none⟩)]) ∧ w' = w.alloc (.cells #[.map mb] 90) :=
  (callsIn_wide (n := 5)).1 (AnyZI.keys_in Tryz.keysR Fence.wide 5 trivial rfl mb w)
/-- slices.Collect of them -/
theorem ref_collect (b n Bm k : Nat) (F : Int → Option (Int × Nat)) (w : World) (hBm : Bm < w.heap.size) (hm : w.cell? ⟨Bm, 0, none⟩ = some (.map (some b))) (h : RefMap w b n F k) (hd : ∀ i, (F i).isSome = true → 0 ≤ i ∧ i < 256) :
    Calls Tryz.prog 86 #[.func (.func 120) #[] #[.pointer (some ⟨Bm, 0, none⟩)]] w fun e w' => ∃ (v : Value) (ss : List Int), e = .returned v ∧ (∀ x, x ∈ ss ↔ (F x).isSome = true) ∧
      w'.ownsRow w.heap.size 3 1 v ss.length (ints ss) ∧ ss.length ≤ 256 ∧ Below w.heap.size w w' := by
  have hk := h.cnt hd
  obtain ⟨D, h1, h2, h3⟩ := h
  obtain ⟨k1, k0, k2⟩ := ikeys_is h1
  have hc : cnt F ≤ 256 := by
    unfold cnt
    have := List.countP_le_length (p := fun (p : Nat) => (F (p : Int)).isSome) (l := List.range 256)
    simpa using this
  have hseq : SeqGives Fence.wide 3 Tryz.prog 120 #[.pointer (some ⟨Bm, 0, none⟩)] encZ (fun ss => ss.Perm (intKeys D)) (Maps.size D) w :=
    AnyZI.keys_gives (ρ := Tryz.keysR_ren) { Tryz.keysR with } Fence.wide _ trivial rfl (by omega) Bm b n D _ hBm hm h1
  have cS := AnyZI.collect_in Tryz.collectA Fence.wide 5 trivial trivial rfl (by omega) 120 #[.pointer (some ⟨Bm, 0, none⟩)] trivial (enters_of Tryz.func120 (by kernel_rfl) rfl) _ _ (by unfold maxLen; omega) (by omega) _ hseq
  refine (callsIn_wide.1 cS).mono ?_
  rintro e w' ⟨v, ss, rfl, hp, ho, _, hb⟩
  exact ⟨v, ss, rfl, fun x => by rw [hp.mem_iff, k2, RefMap.has (w := w) (b := b) (n := n) (k := k) h3], ho, by rw [hp.length_eq, k0]; omega, hb⟩
/-- a copy of places -/
theorem cloneRefs_w (b off n c : Nat) (rs : List (Int × Nat)) (w : World) (h : Refs w (some ⟨b, off, none⟩) n c rs) (hn : n ≤ 1000000) :
    Calls Tryz.prog 80 #[.slice (some ⟨b, off, none⟩) n c] w fun e w' => ∃ g cap, e = .returned (.slice (some ⟨g, 0, none⟩) n cap) ∧ OwnRefs w' w.heap.size (.slice (some ⟨g, 0, none⟩) n cap) n rs ∧ Below w.heap.size w w' := by
  obtain ⟨i, hi, hz0, hz1, hz2⟩ := info_parts elRef.hi
  refine (AnyE.slices_Clone Tryz.cloneRs i _ 2 16 hi hz0 hz1 hz2 elRef.hz elRef.h0 (fun w => by kernel_rfl) b off n c (refCells rs) w h.1 (by unfold maxLen; omega) (by omega) (fun j u hj => Row.cell h hj) (refCells_one rs)).mono ?_
  rintro e w' ⟨v, rfl, ho, hne, hb⟩
  have ho' := ho
  rcases ho.2 with ⟨e0, _⟩ | ⟨g, cap, cur, rfl, _⟩
  · exact absurd e0 hne
  · exact ⟨g, cap, rfl, ho', hb⟩
/-- a copy of the map of the pages' places -/
theorem cloneMap_w (b n k : Nat) (F : Int → Option (Int × Nat)) (w : World) (h : RefMap w b n F k) :
    Calls Tryz.prog 81 #[.map (some b)] w fun e w' => e = .returned (.map (some w.heap.size)) ∧ RefMap w' w.heap.size n F k ∧ w'.heap.size = w.heap.size + 1 ∧ Below w.heap.size w w' := by
  obtain ⟨D, h1, h2, h3⟩ := h
  obtain ⟨es, ck, hb, hr⟩ := h1
  refine (AnyW.maps_Clone Tryz.cloneRm b es ck w hb).mono ?_
  rintro e w' ⟨rfl, rfl⟩
  exact ⟨rfl, ⟨D, ⟨es, ck, heap_alloc_new _ _, hr⟩, h2, h3⟩, by simp, (Below.refl _ w).alloc (Nat.le_refl _) _⟩
/-- is a number among those in use? -/
theorem search_w (b off n c : Nat) (zs : List Int) (x : Int) (w : World) (h : Is w (some ⟨b, off, none⟩) n c zs) (hn : n ≤ 1000000) (hs : zs.Pairwise (· < ·)) :
    Calls Tryz.prog 82 #[.slice (some ⟨b, off, none⟩) n c, .int .i64 x] w fun e w' => (∃ j : Int, e = .returned (.tuple #[.int .i64 j, .bool (decide (x ∈ zs))])) ∧ Below w.heap.size w w' := by
  have hl := h.len
  have ht : zs.take n = zs := List.take_of_length_le (by omega)
  refine (AnyG.slices_BinarySearch_int Tryz.searchA b off n c zs x w (by omega) (by omega) (fun j hj => ?_) (by rw [ht]; exact hs.imp fun h => by omega)).mono ?_
  · have := Row.cell h (j := j) (u := .int .i64 (zs.getD j 0)) (by simp [ints, hj, List.getD_eq_getElem?_getD])
    exact this
  · rintro e w' ⟨rfl, q, rfl⟩
    rw [ht]
    refine ⟨⟨((zs.countP (· < x) : Nat) : Int), ?_⟩, below_drewN (Below.refl _ _) _⟩
    rw [show zs.contains x = decide (x ∈ zs) by rw [Bool.eq_iff_iff]; simp]
end Go.Proofs.YtbjfgdahfpfgdaaGreatDoor.PgW

namespace Go.Proofs.YtbjfgdahfpfgdaaGreatDoor.PairG
open Go Go.RowKit Go.Maps Go.Proofs.YtbjfgdahfpfgdaaGreatDoor.Mem Go.Proofs.YtbjfgdahfpfgdaaGreatDoor.MapsW Go.Proofs.YtbjfgdahfpfgdaaGreatDoor.SeeW Go.Proofs.YtbjfgdahfpfgdaaGreatDoor.DevG
set_option linter.unusedVariables false
set_option maxRecDepth 100000

/-- one copy: its bytes, whether they have the sum -/
def One (w : World) (r : Option (List Nat)) (sum : Nat) (e : Ending) (w' : World) : Prop :=
  (match r with
    | some l => ∃ g cap, e = .returned (.tuple #[.slice (some ⟨g, 0, none⟩) 256 cap, .bool (decide (Crc.sum l = sum)), .nilIface]) ∧ Nums .u8 w' (some ⟨g, 0, none⟩) 256 cap l ∧ w.heap.size ≤ g
    | none => e = .returned (.tuple #[.slice none 0 0, .bool false, .nilIface])) ∧ Below w.heap.size w w'
set_option maxHeartbeats 1600000 in
theorem one_w (bs : List Addr) (lo d n : Nat) (m : Mp) (D : Dv) (p h c : Nat) (i sum : Nat) (w : World) (k : PAt w lo d n m D p h c) (hB : Ev w lo bs five) (hi : i < D.blocks) (hbt : ∀ l, D.read i = some l → Crc.Bytes l) :
    Calls Tryz.prog 99 #[ptr p, .int .i64 i, .int .u32 sum] w (One w (D.read i) sum) := by
  obtain ⟨c0, c1, c2, c3, f3⟩ := k.c
  have hr := read_up bs d lo n m D i w k.dev hB (fits_nat (by have := k.most; omega)) k.up (by omega)
  unfold One
  cases hD : D.read i with
  | some l =>
    rw [hD] at hr
    have hb := hbt l hD
    go_enter Tryz.func99, Tryz.ntmps99
    go_wp2_with fail
    refine hr.mono ?_
    rintro e w1 ⟨⟨g, cap, rfl, hn, hg⟩, hb1⟩
    obtain ⟨aI, haI, hAI⟩ := (hB.below hb1).get 6 _ (by decide) rfl
    have hA1 := hAI.1
    have he := fun w => run_eql_iface_nil_left (P := Tryz.prog) (w := w) Err.tp (.pointer (some aI)) Tryz.underlying33
    go_wp2_with fail
    refine (CrcW.sum_w _ 256 cap l _ hn hb).mono ?_
    rintro e w2 ⟨rfl, rfl⟩
    have hse : (((Crc.sum l : Nat) : Int) == (sum : Int)) = decide (Crc.sum l = sum) := by
      rw [Bool.eq_iff_iff, beq_iff_eq, decide_eq_true_eq]; omega
    generalize hgs : Crc.sum l = s at *
    have HS := hid hse
    have HG := hid hgs
    clear hse hgs
    go_wp2
    refine bodyPost_ret (v := .tuple #[.slice (some ⟨g, 0, none⟩) 256 cap, .bool ((s : Int) == (sum : Int)), .nilIface]) (by simp [results, Tryz.results99, go_sem]) rfl ⟨⟨g, cap, by rw [HS.out, HG.out], hn, hg⟩, hb1⟩
  | none =>
    rw [hD] at hr
    go_enter Tryz.func99, Tryz.ntmps99
    go_wp2_with fail
    refine hr.mono ?_
    rintro e w1 ⟨⟨aI', haI', rfl⟩, hb1⟩
    obtain ⟨aI, haI, hAI⟩ := (hB.below hb1).get 6 _ (by decide) rfl
    rw [haI] at haI'
    cases haI'
    have hA1 := hAI.1
    obtain ⟨i1, hi1, hi2⟩ : ∃ i, Tryz.prog.info? Err.tp = some i ∧ i.comparable = true := ⟨_, rfl, by kernel_rfl⟩
    obtain ⟨j, hj⟩ : ∃ j, Tryz.prog.info? 263 = some j := ⟨_, rfl⟩
    have he := fun w => run_eql_iface_ptr_same (P := Tryz.prog) (w := w) aI' Tryz.underlying33 Tryz.underlying247 hi1 hi2 hj
    go_wp2
    refine bodyPost_ret (v := .tuple #[.slice none 0 0, .bool false, .nilIface]) (by simp [results, Tryz.results99, go_sem]) rfl ⟨rfl, hb1⟩

abbrev Rf (i : Int) (s : Nat) : Value := .agg #[.int .i64 i, .int .u32 s]

/-- what a read of a pair gives, what the device is then, how many were mended -/
def readP (D : Dv) (h c i s : Nat) : Option (List Nat) × Dv × Nat :=
  match D.read i with
  | some l => if Crc.sum l = s then (some l, D, c) else
    match D.read (i + h : Nat) with
    | some l' => if Crc.sum l' = s then (some l', D.put i l', c + 1) else (none, D, c)
    | none => (none, D, c)
  | none =>
    match D.read (i + h : Nat) with
    | some l' => if Crc.sum l' = s then (some l', D.put i l', c + 1) else (none, D, c)
    | none => (none, D, c)

/-- what the second copy gives, where the first did not -/
def second (D : Dv) (h c i s : Nat) : Option (List Nat) × Dv × Nat :=
  match D.read (i + h : Nat) with
  | some l' => if Crc.sum l' = s then (some l', D.put i l', c + 1) else (none, D, c)
  | none => (none, D, c)
theorem readP_first {D : Dv} {h c i s : Nat} {l : List Nat} (h1 : D.read i = some l) (h2 : Crc.sum l = s) : readP D h c i s = (some l, D, c) := by
  unfold readP; rw [h1]; simp only; rw [if_pos h2]
theorem readP_second {D : Dv} {h c i s : Nat} (h1 : ∀ l, D.read i = some l → Crc.sum l ≠ s) : readP D h c i s = second D h c i s := by
  unfold readP second
  cases hD : D.read i with
  | none => rfl
  | some l => simp only; rw [if_neg (h1 l hD)]

def ReadTo (bs : List Addr) (w : World) (lo d n : Nat) (m : Mp) (p h : Nat) (r : Option (List Nat) × Dv × Nat) (e : Ending) (w' : World) : Prop :=
  (match r.1 with
    | some l => ∃ g cap, e = .returned (.tuple #[.slice (some ⟨g, 0, none⟩) 256 cap, .nilIface]) ∧ Nums .u8 w' (some ⟨g, 0, none⟩) 256 cap l ∧ w.heap.size ≤ g
    | none => ∃ a, bs[6]? = some a ∧ e = .returned (.tuple #[.slice none 0 0, ev a])) ∧ PAt w' lo d (n + 1) m r.2.1 p h r.2.2 ∧ Turn (p :: own d m) w w'

set_option maxHeartbeats 3200000 in
theorem read_first (bs : List Addr) (lo d n : Nat) (m : Mp) (D : Dv) (p h c : Nat) (i s : Nat) (w : World) (k : PAt w lo d n m D p h c) (hB : Ev w lo bs five) (hi : i < h) (hbt : ∀ j l, D.read j = some l → Crc.Bytes l) {l : List Nat} (h1 : D.read i = some l) (h2 : Crc.sum l = s) :
    Calls Tryz.prog 56 #[ptr p, Rf i s] w (ReadTo bs w lo d n m p h (some l, D, c)) := by
  have hhf := k.half
  have hmo := k.most
  have hf : Fits (i : Int) := fits_nat (by omega)
  have hd : decide (0 ≤ (i : Int) ∧ (i : Int) < h) = true := by rw [decide_eq_true_eq]; omega
  have bx := (Below.refl w.heap.size w).alloc (Nat.le_refl _) (.cells #[.int .i64 i, .int .u32 s] 111)
  obtain ⟨q0, q1⟩ := new2 w (.int .i64 i) (.int .u32 s) 111
  have kx := k.below bx
  have ho := one_w bs lo d n m D p h c i s _ kx (hB.below bx) (by omega) (fun l hl => hbt i l hl)
  rw [h1] at ho
  unfold One at ho
  simp only [h2, decide_true] at ho
  go_enter Tryz.func56, Tryz.ntmps56
  go_wp2_with fail
  refine (is_w lo d n m D p h c i _ kx hf).mono ?_
  rintro e w' ⟨rfl, rfl⟩
  rw [hd]
  go_wp2_with fail
  refine ho.mono ?_
  rintro e w1 ⟨⟨g, cap, rfl, hn, hg⟩, hb1⟩
  have hb2 : Below w.heap.size w w1 := bx.trans (hb1.mono (by simp))
  have k2 := kx.below hb1
  go_wp2
  refine bodyPost_ret (v := .tuple #[.slice (some ⟨g, 0, none⟩) 256 cap, .nilIface]) (by simp [results, Tryz.results56, go_sem]) rfl ⟨⟨g, cap, rfl, hn, by simp at hg; omega⟩, k2.mono (by omega) (Nat.le_refl _), Turn.of_below hb2⟩

/-- a copy that has not the sum -/
theorem one_not (bs : List Addr) (lo d n : Nat) (m : Mp) (D : Dv) (p h c : Nat) (i s : Nat) (w : World) (k : PAt w lo d n m D p h c) (hB : Ev w lo bs five) (hi : i < D.blocks) (hbt : ∀ l, D.read i = some l → Crc.Bytes l) (hns : ∀ l, D.read i = some l → Crc.sum l ≠ s) :
    Calls Tryz.prog 99 #[ptr p, .int .i64 i, .int .u32 s] w fun e w' => (∃ a n cap, e = .returned (.tuple #[.slice a n cap, .bool false, .nilIface])) ∧ Below w.heap.size w w' := by
  have ho := one_w bs lo d n m D p h c i s w k hB hi hbt
  unfold One at ho
  cases hD : D.read i with
  | none =>
    rw [hD] at ho
    refine ho.mono ?_
    rintro e w' ⟨rfl, hb⟩
    exact ⟨⟨_, _, _, rfl⟩, hb⟩
  | some l =>
    rw [hD] at ho
    simp only [decide_eq_false (hns l hD)] at ho
    refine ho.mono ?_
    rintro e w' ⟨⟨g, cap, rfl, _⟩, hb⟩
    exact ⟨⟨_, _, _, rfl⟩, hb⟩
end Go.Proofs.YtbjfgdahfpfgdaaGreatDoor.PairG

namespace Go.Proofs.YtbjfgdahfpfgdaaGreatDoor.PairG
open Go Go.RowKit Go.Maps Go.Proofs.YtbjfgdahfpfgdaaGreatDoor.Mem Go.Proofs.YtbjfgdahfpfgdaaGreatDoor.MapsW Go.Proofs.YtbjfgdahfpfgdaaGreatDoor.SeeW Go.Proofs.YtbjfgdahfpfgdaaGreatDoor.DevG
set_option linter.unusedVariables false
set_option maxRecDepth 100000

set_option maxHeartbeats 3200000 in
theorem read_second (bs : List Addr) (lo d n : Nat) (m : Mp) (D : Dv) (p h c : Nat) (i s : Nat) (w : World) (k : PAt w lo d n m D p h c) (hB : Ev w lo bs five) (hi : i < h) (hbt : ∀ j l, D.read j = some l → Crc.Bytes l) (hns : ∀ l, D.read i = some l → Crc.sum l ≠ s) {l : List Nat} (h1 : D.read (i + h : Nat) = some l) (h2 : Crc.sum l = s) (hn : n < 850000) (hc : D.calls < 1000000) (hc2 : c < 1000000) :
    Calls Tryz.prog 56 #[ptr p, Rf i s] w (ReadTo bs w lo d n m p h (some l, D.put i l, c + 1)) := by
  have hhf := k.half
  have hmo := k.most
  have hf : Fits (i : Int) := fits_nat (by omega)
  have hd : decide (0 ≤ (i : Int) ∧ (i : Int) < h) = true := by rw [decide_eq_true_eq]; omega
  have bx := (Below.refl w.heap.size w).alloc (Nat.le_refl _) (.cells #[.int .i64 i, .int .u32 s] 111)
  obtain ⟨q0, q1⟩ := new2 w (.int .i64 i) (.int .u32 s) 111
  have kx := k.below bx
  have f1 : IntKind.i64.wrap ((i : Int) + (h : Int)) = ((i + h : Nat) : Int) := by rw [IntKind.wrap_i64]; omega
  go_enter Tryz.func56, Tryz.ntmps56
  go_wp2_with fail
  refine (is_w lo d n m D p h c i _ kx hf).mono ?_
  rintro e w' ⟨rfl, rfl⟩
  rw [hd]
  go_wp2_with fail
  refine (one_not bs lo d n m D p h c i s _ kx (hB.below bx) (by omega) (fun l hl => hbt i l hl) hns).mono ?_
  rintro e w1 ⟨⟨a1, n1, cp1, rfl⟩, hb1⟩
  have k1 := kx.below hb1
  have hB1 := (hB.below bx).below hb1
  replace q0 := kept hb1 q0
  replace q1 := kept hb1 q1
  have hb01 : Below w.heap.size w w1 := bx.trans (hb1.mono (by simp))
  obtain ⟨c0, c1, c2, c3, f3⟩ := k1.c
  clear k kx hB bx hb1
  go_wp2_with fail
  go_region_held3 (fun w' => w'.cell? ⟨w.heap.size, 0, none⟩ = some (.int .i64 i) ∧ w'.cell? ⟨w.heap.size, 1, none⟩ = some (.int .u32 s) ∧ w'.cell? ⟨p, 2, none⟩ = some (.int .i64 h)) (first | exact ⟨q0, q1, c2⟩ | exact ⟨y0, y1, y2⟩ | go_keep)
    ((go_at_call 99; refine (one_w bs lo d n m D p h c (i + h) s _ (k1.below (below_drewN (Below.refl _ _) 1)) (hB1.below (below_drewN (Below.refl _ _) 1)) (by omega) (fun l hl => hbt _ l hl)).mono ?_; rw [h1]; unfold One; simp only [h2, decide_true]; rintro e w2 ⟨⟨g, cap, rfl, hn2, hg⟩, hb2⟩; have y0 := kept hb2 q0; have y1 := kept hb2 q1; have y2 := kept hb2 c2))
  have k2 := (k1.below (below_drewN (Below.refl _ _) 1)).below hb2
  have hb02 : Below w.heap.size w w2 := (below_drewN hb01 1).trans (hb2.mono hb01.size)
  have z1 := hb01.size
  have hg' : w1.heap.size ≤ g := hg
  have hgp : g ≠ p := by
    have := (Array.getElem?_eq_some_iff.1 k1.cells).1
    omega
  have hgd : g ≠ d := by
    have := k1.dev.dlt
    omega
  obtain ⟨cc, ct, cf, hcc⟩ := nums_cells hn2 (by decide)
  have hout := k2.dev.out hcc hgd
  go_wp2_with fail
  refine (mend_w lo d n m D p h c i _ cap l _ k2 (by omega) hn2 (by omega) hc hc2).mono ?_
  rintro e w3 ⟨rfl, k3, t3⟩
  have hn3 := nums_of_cells hn2 (t3.block g (Array.getElem?_eq_some_iff.1 hcc).1 (by
    intro hm
    rcases List.mem_cons.1 hm with e | hm
    · exact hgp e
    · exact hout hm))
  have hT : Turn (p :: own d m) w w3 := (Turn.of_below hb02).then t3
  clear k1 k2 q0 q1 c0 c1 c2 c3 f3 y0 y1 y2
  go_wp2
  refine bodyPost_ret (v := .tuple #[.slice (some ⟨g, 0, none⟩) 256 cap, .nilIface]) (by simp [results, Tryz.results56, go_sem]) rfl ⟨⟨g, cap, rfl, hn3, by omega⟩, k3, hT⟩

set_option maxHeartbeats 3200000 in
theorem read_none (bs : List Addr) (lo d n : Nat) (m : Mp) (D : Dv) (p h c : Nat) (i s : Nat) (w : World) (k : PAt w lo d n m D p h c) (hB : Ev w lo bs five) (hi : i < h) (hbt : ∀ j l, D.read j = some l → Crc.Bytes l) (hns : ∀ l, D.read i = some l → Crc.sum l ≠ s) (hn2 : ∀ l, D.read (i + h : Nat) = some l → Crc.sum l ≠ s) :
    Calls Tryz.prog 56 #[ptr p, Rf i s] w (ReadTo bs w lo d n m p h (none, D, c)) := by
  have hhf := k.half
  have hmo := k.most
  have hf : Fits (i : Int) := fits_nat (by omega)
  have hd : decide (0 ≤ (i : Int) ∧ (i : Int) < h) = true := by rw [decide_eq_true_eq]; omega
  have bx := (Below.refl w.heap.size w).alloc (Nat.le_refl _) (.cells #[.int .i64 i, .int .u32 s] 111)
  obtain ⟨q0, q1⟩ := new2 w (.int .i64 i) (.int .u32 s) 111
  have kx := k.below bx
  have f1 : IntKind.i64.wrap ((i : Int) + (h : Int)) = ((i + h : Nat) : Int) := by rw [IntKind.wrap_i64]; omega
  go_enter Tryz.func56, Tryz.ntmps56
  go_wp2_with fail
  refine (is_w lo d n m D p h c i _ kx hf).mono ?_
  rintro e w' ⟨rfl, rfl⟩
  rw [hd]
  go_wp2_with fail
  refine (one_not bs lo d n m D p h c i s _ kx (hB.below bx) (by omega) (fun l hl => hbt i l hl) hns).mono ?_
  rintro e w1 ⟨⟨a1, n1, cp1, rfl⟩, hb1⟩
  have k1 := kx.below hb1
  have hB1 := (hB.below bx).below hb1
  replace q0 := kept hb1 q0
  replace q1 := kept hb1 q1
  have hb01 : Below w.heap.size w w1 := bx.trans (hb1.mono (by simp))
  obtain ⟨c0, c1, c2, c3, f3⟩ := k1.c
  clear k kx bx hb1
  go_wp2_with fail
  go_region_held3 (fun w' => w'.cell? ⟨w.heap.size, 0, none⟩ = some (.int .i64 i) ∧ w'.cell? ⟨w.heap.size, 1, none⟩ = some (.int .u32 s) ∧ w'.cell? ⟨p, 2, none⟩ = some (.int .i64 h)) (first | exact ⟨q0, q1, c2⟩ | exact ⟨y0, y1, y2⟩ | go_keep)
    ((go_at_call 99; refine (one_not bs lo d n m D p h c (i + h) s _ (k1.below (below_drewN (Below.refl _ _) 1)) (hB1.below (below_drewN (Below.refl _ _) 1)) (by omega) (fun l hl => hbt _ l hl) hn2).mono ?_; rintro e w2 ⟨⟨a2, n2, cp2, rfl⟩, hb2⟩; have y0 := kept hb2 q0; have y1 := kept hb2 q1; have y2 := kept hb2 c2))
  have k2 := (k1.below (below_drewN (Below.refl _ _) 1)).below hb2
  have hb02 : Below w.heap.size w w2 := (below_drewN hb01 1).trans (hb2.mono hb01.size)
  obtain ⟨aI, haI, hAI⟩ := (hB.below hb02).get 6 _ (by decide) rfl
  have hA1 := hAI.1
  go_wp2
  go_quiet (fail)
  go_wp2
  refine bodyPost_ret (v := .tuple #[.slice none 0 0, ev aI]) (by simp [results, Tryz.results56, go_sem]) rfl ⟨⟨aI, haI, rfl⟩, (k2.below (below_drewN (Below.refl _ _) _)).mono (by omega) (Nat.le_refl _), Turn.of_below (below_drewN hb02 _)⟩
theorem read_w (bs : List Addr) (lo d n : Nat) (m : Mp) (D : Dv) (p h c : Nat) (i s : Nat) (w : World) (k : PAt w lo d n m D p h c) (hB : Ev w lo bs five) (hi : i < h) (hbt : ∀ j l, D.read j = some l → Crc.Bytes l) (hn : n < 850000) (hc : D.calls < 1000000) (hc2 : c < 1000000) :
    Calls Tryz.prog 56 #[ptr p, Rf i s] w (ReadTo bs w lo d n m p h (readP D h c i s)) := by
  by_cases h1 : ∃ l, D.read i = some l ∧ Crc.sum l = s
  · obtain ⟨l, h1, h2⟩ := h1
    rw [readP_first h1 h2]
    exact read_first bs lo d n m D p h c i s w k hB hi hbt h1 h2
  · have hns : ∀ l, D.read i = some l → Crc.sum l ≠ s := fun l hl he => h1 ⟨l, hl, he⟩
    rw [readP_second hns]
    unfold second
    cases hD : D.read (i + h : Nat) with
    | none => exact read_none bs lo d n m D p h c i s w k hB hi hbt hns (fun l hl => by rw [hD] at hl; cases hl)
    | some l =>
      simp only
      by_cases h2 : Crc.sum l = s
      · rw [if_pos h2]
        exact read_second bs lo d n m D p h c i s w k hB hi hbt hns hD h2 hn hc hc2
      · rw [if_neg h2]
        exact read_none bs lo d n m D p h c i s w k hB hi hbt hns (fun l' hl => by rw [hD] at hl; cases hl; exact h2)

/-- whether a copy is right -/
def right (D : Dv) (j : Nat) (s : Nat) : Bool := match D.read j with
  | some l => decide (Crc.sum l = s)
  | none => false
end Go.Proofs.YtbjfgdahfpfgdaaGreatDoor.PairG

namespace Go.Proofs.YtbjfgdahfpfgdaaGreatDoor.PairG
open Go Go.RowKit Go.Maps Go.Proofs.YtbjfgdahfpfgdaaGreatDoor.Mem Go.Proofs.YtbjfgdahfpfgdaaGreatDoor.MapsW Go.Proofs.YtbjfgdahfpfgdaaGreatDoor.SeeW Go.Proofs.YtbjfgdahfpfgdaaGreatDoor.DevG
set_option linter.unusedVariables false
set_option maxRecDepth 100000

/-- both copies -/
def put2 (D : Dv) (h i : Nat) (l : List Nat) : Dv := (D.put i l).put (i + h : Nat) l
def putK (D : Dv) (h i : Nat) (l : List Nat) : Nat → Dv
  | 0 => D
  | 1 => D.put i l
  | _ => put2 D h i l
theorem putK_blocks (D : Dv) (h i : Nat) (l : List Nat) (k : Nat) : (putK D h i l k).blocks = D.blocks := by
  unfold putK; split <;> rfl
theorem putK_up (D : Dv) (h i : Nat) (l : List Nat) (k : Nat) : (putK D h i l k).down = D.down ∧ (putK D h i l k).fuse = D.fuse := by
  unfold putK; split <;> exact ⟨rfl, rfl⟩
theorem putK_calls (D : Dv) (h i : Nat) (l : List Nat) (k : Nat) : (putK D h i l k).calls ≤ D.calls + 2 := by
  unfold putK; split
  · omega
  · show D.calls + 1 ≤ _; omega
  · show D.calls + 1 + 1 ≤ _; omega

theorem PAt.nou8 {w : World} {lo d n : Nat} {m : Mp} {D : Dv} {p h c : Nat} (k : PAt w lo d n m D p h c) : ∀ x ∈ p :: own d m, ∀ off z, w.cell? ⟨x, off, none⟩ ≠ some (.int .u8 z) := by
  intro x hx off z
  rcases List.mem_cons.1 hx with rfl | hx
  · refine nou8_cells k.cells ?_ off z
    intro v hv z e
    subst e
    simp at hv
  · exact At.nou8 k.dev x hx off z

/-- what writes elsewhere leaves the pairs -/
theorem PAt.elsewhere {S : List Nat} {w w' : World} {lo d n : Nat} {m : Mp} {D : Dv} {p h c : Nat} (k : PAt w lo d n m D p h c) (ht : Turn S w w') (hS : ∀ x ∈ S, x ≠ p ∧ x ≠ d ∧ ∃ v cs t f, w.heap[x]? = some (.cells cs t f) ∧ w.cell? ⟨x, 0, none⟩ = some v ∧ ∀ z, v ≠ .int .u8 z) : PAt w' lo d n m D p h c := by
  have hp : p ∉ S := fun hm => (hS p hm).1 rfl
  refine ⟨k.dev.turn ht (fun hm => (hS d hm).2.1 rfl) (fun x hx hm => ?_) (fun x hx => ?_), ht.cells k.cells hp, k.half, k.most, k.lop, k.up, k.still⟩
  · obtain ⟨_, _, v, cs, t, f, h1, _⟩ := hS x hm
    obtain ⟨es, ck, h2⟩ := k.dev.maps x hx
    rw [h1] at h2
    cases h2
  · obtain ⟨_, _, v, cs, t, f, _, h2, h3⟩ := hS x hx
    exact .inr ⟨v, h2, h3⟩

set_option maxHeartbeats 3200000 in
theorem write_w (lo d n : Nat) (m : Mp) (D : Dv) (p h c : Nat) (i : Nat) (a : Option Addr) (cap : Nat) (l : List Nat) (w : World) (k : PAt w lo d n m D p h c) (hi : i < h) (hl : Nums .u8 w a 256 cap l) (hb : Crc.Bytes l) (hn : n < 850000) (hc : D.calls < 900000) :
    Calls Tryz.prog 90 #[ptr p, .int .i64 i, .slice a 256 cap] w fun e w' => e = .returned (.tuple #[Rf i (Crc.sum l), .nilIface]) ∧ PAt w' lo d (n + 2) m (put2 D h i l) p h c ∧ Turn (own d m) w w' := by
  have hhf := k.half
  have hmo := k.most
  have hf : Fits (i : Int) := fits_nat (by omega)
  have hd : decide (0 ≤ (i : Int) ∧ (i : Int) < h) = true := by rw [decide_eq_true_eq]; omega
  have bx := (Below.refl w.heap.size w).alloc (Nat.le_refl _) (.cells #[.int .i64 0, .int .u32 0] 111)
  have kx := k.below bx
  obtain ⟨c0, c1, c2, c3, f3⟩ := kx.c
  have f1 : IntKind.i64.wrap ((i : Int) + (h : Int)) = ((i + h : Nat) : Int) := by rw [IntKind.wrap_i64]; omega
  go_enter Tryz.func90, Tryz.ntmps90
  go_wp2_with fail
  refine (is_w lo d n m D p h c i _ kx hf).mono ?_
  rintro e w' ⟨rfl, rfl⟩
  rw [hd]
  go_wp2_with fail
  have b1 := kx.below ((Below.refl _ _).alloc (Nat.le_refl _) (.cells #[.int .i64 i, .int .i64 ((i : Int) + (h : Int))] 3))
  have r0 : (w.alloc (.cells #[.int .i64 0, .int .u32 0] 111)).heap[w.heap.size]? = some (.cells #[.int .i64 0, .int .u32 0] 111) := alloc_at rfl _
  have r1 := alloc_old (o := .cells #[.int .i64 i, .int .i64 ((i : Int) + (h : Int))] 3) r0
  have r2 : ((w.alloc (.cells #[.int .i64 0, .int .u32 0] 111)).alloc (.cells #[.int .i64 i, .int .i64 ((i : Int) + (h : Int))] 3)).heap[w.heap.size + 1]? = some (.cells #[.int .i64 i, .int .i64 ((i : Int) + (h : Int))] 3) := alloc_at (by simp) _
  have bb : Below w.heap.size w ((w.alloc (.cells #[.int .i64 0, .int .u32 0] 111)).alloc (.cells #[.int .i64 i, .int .i64 ((i : Int) + (h : Int))] 3)) := bx.alloc (by simp) _
  have hl2 := hl.below bb
  have sz : ((w.alloc (.cells #[.int .i64 0, .int .u32 0] 111)).alloc (.cells #[.int .i64 i, .int .i64 ((i : Int) + (h : Int))] 3)).heap.size = w.heap.size + 2 := by simp
  have hdw := k.dev.dlt
  generalize (w.alloc (.cells #[.int .i64 0, .int .u32 0] 111)).alloc (.cells #[.int .i64 i, .int .i64 ((i : Int) + (h : Int))] 3) = wS at *
  clear kx bx c0 c1 c2 c3 f3 r0 hl
  go_loopw [27] (fun jv wr => ∃ j : Nat, j ≤ 2 ∧ jv = .int .i64 j ∧ PAt wr lo d (n + j) m (putK D h i l j) p h c ∧ Turn (own d m) wS wr ∧ Nums .u8 wr a 256 cap l ∧ wr.heap[w.heap.size]? = some (.cells #[.int .i64 0, .int .u32 0] 111) ∧ wr.heap[w.heap.size + 1]? = some (.cells #[.int .i64 i, .int .i64 ((i : Int) + (h : Int))] 3)) (fun jv _ => 2 - (RowKit.intOf jv).toNat)
  case atStart => exact ⟨0, by omega, rfl, b1, Turn.refl _ _, hl2, r1, r2⟩
  case round =>
    clear b1 r1 r2 hl2
    obtain ⟨j, hj, rfl, kr, tr, hl, r1, r2⟩ := hrel
    obtain ⟨c0, c1, c2, c3, f3⟩ := kr.c
    rw [putK_blocks] at c1
    by_cases hlt : j < 2
    · have hcell : ∃ q : Nat, wr.cell? ⟨w.heap.size + 1, j, none⟩ = some (.int .i64 (q : Int)) ∧ q < D.blocks ∧ (putK D h i l j).put q l = putK D h i l (j + 1) := by
        rcases (by omega : j = 0 ∨ j = 1) with rfl | rfl
        · exact ⟨i, by simp [World.cell?, r2], by omega, rfl⟩
        · exact ⟨i + h, by simp [World.cell?, r2], by omega, rfl⟩
      obtain ⟨q, hq, hqb, hqe⟩ := hcell
      go_wp2_with fail
      refine (write_q d lo (n + j) m _ q a cap l _ kr.dev (by rw [putK_blocks]; exact hqb) (by rw [putK_blocks]; exact hmo) hl (by omega) (by have := putK_calls D h i l j; omega) ((putK_up D h i l j).1.trans k.up) ((putK_up D h i l j).2.trans k.still)).mono ?_
      rintro e w3 ⟨rfl, h3, t3⟩
      rw [hqe] at h3
      have k3 := kr.turn h3 t3 (by rw [putK_blocks, putK_blocks]) ((putK_up D h i l (j + 1)).1.trans k.up) ((putK_up D h i l (j + 1)).2.trans k.still)
      have hl3 := nums_turn hl t3 (At.nou8 kr.dev)
      have s1 := t3.cells r1 (kr.dev.out r1 (by omega))
      have s2 := t3.cells r2 (kr.dev.out r2 (by omega))
      clear c0 c1 c2 c3 f3
      go_wp2_with fail
      go_roundw
      case rel => exact ⟨j + 1, by omega, by go_num, k3, tr.then t3, hl3, s1, s2⟩
      case measure => simp [RowKit.intOf]; omega
    · obtain rfl : j = 2 := by omega
      go_wp2_with fail
      refine (CrcW.sum_w a 256 cap l _ hl hb).mono ?_
      rintro e w3 ⟨rfl, rfl⟩
      have hx1 : wr.cell? ⟨w.heap.size, 0, none⟩ = some (.int .i64 0) ∧ wr.cell? ⟨w.heap.size, 1, none⟩ = some (.int .u32 0) ∧ wr.frozen? ⟨w.heap.size, 0, none⟩ = false ∧ wr.frozen? ⟨w.heap.size, 1, none⟩ = false := by
        simp [World.cell?, World.frozen?, r1]
      obtain ⟨x1, x2, x3, x4⟩ := hx1
      have hpw : p < w.heap.size := (Array.getElem?_eq_some_iff.1 k.cells).1
      have hfin : ∀ (u v : Value), Turn [w.heap.size] wr ((wr.setCell ⟨w.heap.size, 0, none⟩ u).setCell ⟨w.heap.size, 1, none⟩ v) := fun u v =>
        (Turn.setCell wr _ _ _ (by simp)).then (Turn.setCell _ _ _ _ (by simp))
      have hk := fun u v => kr.elsewhere (hfin u v) (fun x hx => by
        rw [List.mem_singleton.1 hx]
        exact ⟨by omega, by omega, _, _, _, _, r1, x1, fun z e => by cases e⟩)
      have hT : ∀ u v, Turn (own d m) w ((wr.setCell ⟨w.heap.size, 0, none⟩ u).setCell ⟨w.heap.size, 1, none⟩ v) := fun u v =>
        ((Turn.of_below bb).then tr).trans (hfin u v) (fun x hx => by rw [List.mem_singleton.1 hx]; exact .inr (Nat.le_refl _))
      generalize hs : Crc.sum l = s at *
      have HS := hid hs
      have HK := hid hk
      have HT := hid hT
      clear hk hT kr tr hfin c0 c1 c2 c3 f3 r1 r2 hs
      go_wp2
      refine bodyPost_ret (v := .tuple #[Rf i s, .nilIface]) (by simp [results, Tryz.results90, go_sem, x1, x2]) rfl ⟨by rw [HS.out], HK.out _ _, HT.out _ _⟩
end Go.Proofs.YtbjfgdahfpfgdaaGreatDoor.PairG

namespace Go.Proofs.YtbjfgdahfpfgdaaGreatDoor.DevG
open Go Go.RowKit Go.Maps Go.Proofs.YtbjfgdahfpfgdaaGreatDoor.Mem Go.Proofs.YtbjfgdahfpfgdaaGreatDoor.MapsW
set_option linter.unusedVariables false
set_option maxRecDepth 100000

/-- a device behind a write that was told well -/
def Dv.wrote (D : Dv) (p : Nat) (l : List Nat) : Dv := D.tick.put p l
theorem Dv.wrote_np (D : Dv) (p : Nat) (l : List Nat) : (D.wrote p l).np ≤ D.np + 1 ∧ (D.wrote p l).calls = D.calls + 1 ∧ (D.wrote p l).blocks = D.blocks ∧ (D.wrote p l).fuse ≤ D.fuse := by
  have h := D.tick_same
  unfold Dv.wrote Dv.put
  refine ⟨?_, by simp [h.2.2.2.2.2.2.2.2.1], by simp [h.1], by simp [h.2.2.2.2.2.2.2.2.2]⟩
  simp only
  split
  · rw [h.2.2.2.2.2.2.1]; omega
  · rw [h.2.2.2.2.2.2.1]; omega
/-- a root saved: what is told, what the device has then -/
def Dv.save (D : Dv) (H ep : Nat) (b : List Nat) : Option Nat × Dv :=
  if D.tick.down then (some 5, D.tick) else
  if (D.wrote (ep % 2) b).tick.down then (some 5, (D.wrote (ep % 2) b).tick) else
  ((D.wrote (ep % 2) b).wrote (ep % 2 + H) b).flushT
/-- .. step by step -/
def Dv.stage (D : Dv) (H ep : Nat) (b : List Nat) : Nat → Dv
  | 0 => D
  | 1 => D.wrote (ep % 2) b
  | _ => (D.wrote (ep % 2) b).wrote (ep % 2 + H) b
theorem Dv.stage_succ (D : Dv) (H ep : Nat) (b : List Nat) (k : Nat) (hk : k < [ep % 2, ep % 2 + H].length) : D.stage H ep b (k + 1) = (D.stage H ep b k).wrote ([ep % 2, ep % 2 + H][k]) b := by
  match k, hk with
  | 0, _ => rfl
  | 1, _ => rfl
theorem Dv.stage_in (D : Dv) (H ep : Nat) (b : List Nat) (k : Nat) : (D.stage H ep b k).np ≤ D.np + 2 ∧ (D.stage H ep b k).calls ≤ D.calls + 2 ∧ (D.stage H ep b k).blocks = D.blocks ∧ (D.stage H ep b k).fuse ≤ D.fuse := by
  have h1 := D.wrote_np (ep % 2) b
  have h2 := (D.wrote (ep % 2) b).wrote_np (ep % 2 + H) b
  unfold Dv.stage
  split
  · exact ⟨by omega, by omega, rfl, Nat.le_refl _⟩
  · exact ⟨by omega, by omega, h1.2.2.1, h1.2.2.2⟩
  · exact ⟨by omega, by omega, h2.2.2.1.trans h1.2.2.1, Nat.le_trans h2.2.2.2 h1.2.2.2⟩
theorem Dv.save_down (D : Dv) (H ep : Nat) (b : List Nat) (k : Nat) (hk : k < 2) (hup : ∀ j, j < k → (D.stage H ep b j).tick.down = false) (hd : (D.stage H ep b k).tick.down = true) : D.save H ep b = (some 5, (D.stage H ep b k).tick) := by
  unfold Dv.save
  match k, hk with
  | 0, _ =>
    simp only [Dv.stage] at hd ⊢
    rw [if_pos hd]
  | 1, _ =>
    have h0 := hup 0 (by decide)
    simp only [Dv.stage] at h0 hd ⊢
    rw [h0, if_neg (by decide), if_pos hd]
theorem Dv.save_up (D : Dv) (H ep : Nat) (b : List Nat) (hup : ∀ j, j < 2 → (D.stage H ep b j).tick.down = false) : D.save H ep b = (D.stage H ep b 2).flushT := by
  unfold Dv.save
  have h0 := hup 0 (by decide)
  have h1 := hup 1 (by decide)
  simp only [Dv.stage] at h0 h1 ⊢
  rw [h0, if_neg (by decide), h1, if_neg (by decide)]
end Go.Proofs.YtbjfgdahfpfgdaaGreatDoor.DevG
namespace Go.Proofs.YtbjfgdahfpfgdaaGreatDoor.RootW
open Go Go.RowKit Go.Maps Go.Proofs.YtbjfgdahfpfgdaaGreatDoor.Mem Go.Proofs.YtbjfgdahfpfgdaaGreatDoor.MapsW Go.Proofs.YtbjfgdahfpfgdaaGreatDoor.RootP Go.Proofs.YtbjfgdahfpfgdaaGreatDoor.SeeW Go.Proofs.YtbjfgdahfpfgdaaGreatDoor.RefsW Go.Proofs.YtbjfgdahfpfgdaaGreatDoor.DevG Go.Proofs.YtbjfgdahfpfgdaaGreatDoor.ConcatW
set_option linter.unusedVariables false
set_option maxRecDepth 100000

theorem nums_turn {k : IntKind} {S : List Nat} {w w' : World} {a : Option Addr} {n cap : Nat} {l : List Nat} (h : Nums k w a n cap l) (ht : Turn S w w') (hS : ∀ b o, a = some ⟨b, o, none⟩ → b ∉ S) : Nums k w' a n cap l :=
  Row.keep h fun b o e hlt => ht.block b hlt (hS b o e)
theorem cell_turn {S : List Nat} {w w' : World} {b o : Nat} {v : Value} (h : w.cell? ⟨b, o, none⟩ = some v) (ht : Turn S w w') (hS : b ∉ S) : w'.cell? ⟨b, o, none⟩ = some v :=
  (World.cell?_of_block (ht.block b (World.block_lt_of_cell? w _ h) hS)).trans h
def SaveTo (bs : List Addr) (w : World) (lo d n : Nat) (m : Mp) (r : Option Nat × Dv) (e : Ending) (w' : World) : Prop :=
  (∃ v, Says bs r.1 v ∧ e = .returned v) ∧ ∃ p', (p' = m.p ∨ w.heap.size ≤ p') ∧ At w' lo d n { m with p := p' } r.2 ∧ Turn (own d m) w w'
set_option maxHeartbeats 3200000 in
theorem save_w (bs : List Addr) (d lo n : Nat) (m : Mp) (D : Dv) (ep : Nat) (rs : List (Int × Nat)) (a : Option Addr) (c : Nat) (w : World) (h : At w lo d n m D) (hB : Ev w lo bs six) (hb1 : 300 ≤ D.blocks) (hb2 : D.blocks ≤ 6000) (hl : Refs w a rs.length c rs) (hg : RootP.Good ⟨ep, rs⟩) (hs : ∀ x ∈ rs, x.2 < 4294967296)
    (hn : n < 800000) (hp : D.np < 10000) (hc : D.calls < 900000) (hz : D.fuse ≤ 1000000) :
    Calls Tryz.prog 92 #[ptr d, Rv ep a rs.length c] w (SaveTo bs w lo d (n + 8 + 3 * D.np) m (D.save (GeoW.half D.blocks) ep (enc ⟨ep, rs⟩))) := by
  have bx := (Below.refl w.heap.size w).alloc (Nat.le_refl _) (.cells #[.int .i64 (ep : Int), .slice a rs.length c] 89)
  obtain ⟨x0, x1⟩ := new2 w (.int .i64 (ep : Int)) (.slice a rs.length c) 89
  obtain ⟨H, hH⟩ : ∃ H, H = GeoW.half D.blocks := ⟨_, rfl⟩
  have hH1 := GeoW.half_le D.blocks
  have hH2 := GeoW.half_512 D.blocks
  have hof := fun w => GeoW.of_good D.blocks w hb1 hb2
  rw [← hH] at hH1 hH2 ⊢
  simp only [← hH] at hof
  clear hH
  have h40 := hg.e2
  simp only at h40
  have hby := fun (w : World) (hl : Refs w a rs.length c rs) (hB : Ev w lo bs six) => bytes_ok bs lo ⟨ep, rs⟩ a rs.length c w hl (hB.sub (by decide)) hg hs
  have HOLD := hid h.old
  clear hg
  go_enter Tryz.func92, Tryz.ntmps92
  go_wp2_with fail
  refine (blocks_w d lo n m D _ (h.below bx)).mono ?_
  rintro e w' ⟨rfl, rfl⟩
  go_wp2_with fail
  refine (hof _).mono ?_
  rintro e w1 ⟨rfl, b1⟩
  have B1 := bx.trans (b1.mono bx.size)
  replace x0 := kept b1 x0
  replace x1 := kept b1 x1
  have al := (Below.refl w1.heap.size w1).alloc (Nat.le_refl _) (.cells #[.int .i64 (D.blocks : Int), .int .i64 (H : Int)] 25)
  obtain ⟨g0, g1⟩ := new2 w1 (.int .i64 (D.blocks : Int)) (.int .i64 (H : Int)) 25
  replace x0 := kept al x0
  replace x1 := kept al x1
  have B2 := B1.trans (al.mono B1.size)
  clear b1 al B1 hof
  go_wp2_with fail
  refine (hby _ (hl.below B2) (hB.below B2)).mono ?_
  rintro e w2 ⟨⟨v, rfl, own2⟩, b2⟩
  obtain ⟨gb, cb, rfl, nb, fb⟩ := row_of own2
  have zB := B2.size
  replace x0 := kept b2 x0
  replace g0 := kept b2 g0
  replace g1 := kept b2 g1
  have B3 := B2.trans (b2.mono B2.size)
  have fb' : w.heap.size ≤ gb := Nat.le_trans zB fb
  clear x1 own2 b2 B2 hby fb zB
  go_wp2_with fail
  refine (places_w D.blocks H ep _ (by omega) (by omega)).mono ?_
  rintro e w3 ⟨gp, rfl, np, b3, fp⟩
  have nb3 := nb.below b3
  have fp' : w.heap.size ≤ gp := Nat.le_trans B3.size fp
  have B4 := B3.trans (b3.mono B3.size)
  have h3 := h.below B4
  have hB3 := hB.below B4
  have hlo := h.own_lo
  have ob : gb ∉ own d m := fun hm => by have := HOLD.out gb hm; omega
  have op : gp ∉ own d m := fun hm => by have := HOLD.out gp hm; omega
  clear g0 g1 x0 nb b3 fp B3 h hB hl fb' fp'
  have HI := hid (Dv.stage_in D H ep (enc ⟨ep, rs⟩))
  have HS := hid (Dv.stage_succ D H ep (enc ⟨ep, rs⟩))
  have HD := hid (Dv.save_down D H ep (enc ⟨ep, rs⟩))
  have HU := hid (Dv.save_up D H ep (enc ⟨ep, rs⟩))
  have h0 : At w3 lo d n m (D.stage H ep (enc ⟨ep, rs⟩) 0) := h3
  generalize hst : D.stage H ep (enc ⟨ep, rs⟩) = st at *
  generalize hbe : enc ⟨ep, rs⟩ = b at *
  clear h3 hst hbe hs
  go_wp2_with fail
  go_loopw [33] (fun i wr => ∃ k : Nat, k ≤ 2 ∧ i = .int .i64 k ∧ At wr lo d (n + k) m (st k) ∧ Turn (own d m) w3 wr ∧ ∀ j, j < k → (st j).tick.down = false) (fun i _ => 2 - (RowKit.intOf i).toNat)
  case atStart => exact ⟨0, by omega, rfl, h0, Turn.refl _ _, fun j hj => by omega⟩
  case round =>
    clear h0
    obtain ⟨k, hk, rfl, h0, hT, hup⟩ := hrel
    have HUP := hid hup
    clear hup
    obtain ⟨i1, i2, i3, i4⟩ := HI.out k
    have nb' := nums_turn nb3 hT (fun b o e => by cases e; exact ob)
    have np' := nums_turn np hT (fun b o e => by cases e; exact op)
    have hB' := hB3.turn hT hlo
    by_cases hlt : k < 2
    · have hkl : k < [ep % 2, ep % 2 + H].length := hlt
      obtain ⟨bq, oq, e, hc'⟩ := np'.at hkl
      cases e
      have HS2 := hid (HS.out k hkl)
      have hin : [ep % 2, ep % 2 + H][k] < D.blocks := by
        have : ∀ x ∈ [ep % 2, ep % 2 + H], x < D.blocks := by simp; omega
        exact this _ (List.getElem_mem hkl)
      generalize [ep % 2, ep % 2 + H][k] = x at hc' HS2 hin
      rw [Nat.zero_add] at hc'
      by_cases hd : (st k).tick.down = true
      · have hw := write_no bs d lo _ m (st k) x (some ⟨gb, 0, none⟩) 256 cb wr h0 (hB'.sub (by decide)) (by omega) (fits_nat (by omega)) 5 _ (by decide) rfl (.inl ⟨hd, rfl⟩)
        have HR := hid (HD.out k hlt HUP.out hd)
        have HT := hid hT
        clear hd nb' np' hB' h0 hT
        go_wp2_with fail
        refine hw.mono ?_
        rintro e w4 ⟨⟨ax, hax, rfl⟩, h4, t4⟩
        go_wp2_with fail
        go_ret
        rw [HR.out]
        exact ⟨⟨_, ⟨ax, hax, rfl⟩, rfl⟩, m.p, .inl rfl, h4.mono (by omega) (Nat.le_refl _), ((Turn.of_below B4).trans HT.out (fun x hx => .inl hx)).then (own1 t4)⟩
      · have hd : (st k).tick.down = false := by simpa using hd
        have hw := write_ok d lo _ m (st k) x _ cb b wr h0 (by omega) (by omega) nb' (by omega) (by omega) (by omega) hd
        have HT := hid hT
        have HUQ := hid (show ∀ j, j < k + 1 → (st j).tick.down = false from fun j hj => (Nat.lt_or_ge j k).elim (fun h => HUP.out j h) (fun h => by rw [show j = k by omega]; exact hd))
        clear hd nb' np' hB' h0 hT
        go_wp2_with fail
        refine hw.mono ?_
        rintro e w4 ⟨rfl, h4, t4⟩
        have H4 := hid h4
        have T4 := hid t4
        clear h4 t4
        go_wp2_with fail
        go_roundw
        case rel => exact ⟨k + 1, by omega, by go_num, by rw [HS2.out]; exact H4.out, HT.out.then T4.out, HUQ.out⟩
        case measure => simp [RowKit.intOf]; omega
    · obtain rfl : k = 2 := by omega
      have hw := flush_w bs d lo _ m (st 2) wr h0 (hB'.sub (by decide)) (by omega) (by omega) (by omega) (by omega)
      have HR := hid (HU.out HUP.out)
      have HT := hid hT
      clear nb' np' hB' h0 hT
      go_wp2_with fail
      refine hw.mono ?_
      rintro e w4 ⟨⟨v, hv, rfl⟩, p', hp', h4, t4⟩
      have H4 := hid h4
      have T4 := hid t4
      clear h4 t4
      go_wp2_with fail
      go_ret
      rw [HR.out]
      exact ⟨⟨v, hv, rfl⟩, p', hp'.imp id (fun h => by have := HT.out.size; have := B4.size; omega), H4.out.mono (by omega) (Nat.le_refl _), ((Turn.of_below B4).trans HT.out (fun x hx => .inl hx)).then T4.out⟩
end Go.Proofs.YtbjfgdahfpfgdaaGreatDoor.RootW
