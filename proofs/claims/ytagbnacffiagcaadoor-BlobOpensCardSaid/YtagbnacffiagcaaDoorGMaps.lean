/- Sets: maps of bools that hold what is true alone; how many. -/
import Derived.Test.YtagbnacffiagcaaDoorMaps
namespace Go.Proofs.YtagbnacffiagcaaDoor.MapsW
open Go Go.RowKit Go.Maps Go.Proofs.YtagbnacffiagcaaDoor.Mem
set_option linter.unusedVariables false
set_option maxRecDepth 100000

/-- block b of w is a map of bools: true at each of its keys, k of them -/
def SetMap (w : World) (b n : Nat) (F : Int → Bool) (k : Nat) : Prop :=
  ∃ D : DataW Unit, w.ownsMap Tryd.prog 3 (plainElem Tryd.prog 4) b n D ∧ Maps.size D = k ∧ ∀ i, D.atKey (.int .i64 i) (.lit (.bool false)) = .lit (.bool (F i)) ∧ Maps.has D (.int .i64 i) = F i
theorem SetMap.bool {w : World} {b n k : Nat} {F : Int → Bool} (h : SetMap w b n F k) : BoolMap w b n F := by
  obtain ⟨D, h1, _, h2⟩ := h
  exact ⟨D, h1, fun i => (h2 i).1⟩
theorem SetMap.mono {w : World} {b n n' k : Nat} {F : Int → Bool} (h : SetMap w b n F k) (hn : n ≤ n') : SetMap w b n' F k := by
  obtain ⟨D, h1, h2⟩ := h
  exact ⟨D, h1.mono hn, h2⟩
theorem SetMap.block {w : World} {b n k : Nat} {F : Int → Bool} (h : SetMap w b n F k) : ∃ es ck, w.heap[b]? = some (.map es ck) := h.bool.block
theorem SetMap.still {w w' : World} {b n k : Nat} {F : Int → Bool} (h : SetMap w b n F k) (e : w'.heap[b]? = w.heap[b]?) : SetMap w' b n F k := by
  obtain ⟨D, h1, h2⟩ := h
  exact ⟨D, ownsMap_of h1 e, h2⟩
theorem SetMap.made (w : World) : SetMap (w.alloc (.map #[] 0)) w.heap.size 0 (fun _ => false) 0 :=
  ⟨.map [], World.ownsMap_made _ _ _ _, rfl, fun i => ⟨rfl, rfl⟩⟩
theorem wpList_putSet (w : World) {ops : Array Oper} {rest : List Oper} {o : Oper} {a : Act} {Q : Exit → Act → World → Prop} (hg : o.guard = none) (m x v : Operand) (hop : o.op = Op.mapUpdate 121 m x v)
    {b n k : Nat} {F : Int → Bool} (h : SetMap w b n F k) (hn : n < 1000000) {i : Int} (hi : Fits i)
    (hm : a.eval m = .map (some b)) (hx : a.eval x = .int .i64 i) (hv : a.eval v = .bool true)
    (hK : ∀ w', SetMap w' b (n + 1) (upd F i true) (if F i then k else k + 1) → w.grownBy w' (some b) → wpList Tryd.prog ops Q rest (a.put o.dst undef) w') : wpList Tryd.prog ops Q (o :: rest) a w := by
  obtain ⟨D, h1, h3, h2⟩ := h
  refine wpList_mapUpdate_own w hg m x v _ hop 3 4 law Tryd.underlying121 _ b n D hm h1 (by unfold maxLen; omega) _ _ _ hx hv (key hi) _ [] (plainElem_bool Tryd.underlying4 true) fun w' ho hgw => ?_
  refine hK w' ⟨_, ho, ?_, fun j => ?_⟩ hgw
  · rw [size_put (h1.tidy law), (h2 i).2, h3]
  · by_cases hj : j = i
    · subst hj
      rw [upd_same, atKey_put_same (h1.tidy law).isMap (islit j)]
      exact ⟨rfl, has_put_same (h1.tidy law).isMap (islit j) _⟩
    · rw [upd_other _ _ hj, atKey_put_other (litne hj), (h2 j).1]
      exact ⟨rfl, (has_put_other (litne hj) _).trans (h2 j).2⟩
theorem SetMap.len {w : World} {b n k : Nat} {F : Int → Bool} (h : SetMap w b n F k) : ∃ D : DataW Unit, w.ownsMap Tryd.prog 3 (plainElem Tryd.prog 4) b n D ∧ Maps.size D = k := by
  obtain ⟨D, h1, h2, _⟩ := h
  exact ⟨D, h1, h2⟩
/-- a row struck -/
theorem wpList_delRow (w : World) {ops : Array Oper} {rest : List Oper} {o : Oper} {a : Act} {Q : Exit → Act → World → Prop} (hg : o.guard = none) (m x : Operand) (hop : o.op = Op.call { callee := Callee.builtin Builtin.delete, args := #[m, x], argTypes := #[120, 3] })
    {base b n np : Nat} {F : Int → Option (List Nat)} (h : RowMap w base b n F np) {i : Int} (hi : Fits i)
    (hm : a.eval m = .map (some b)) (hx : a.eval x = .int .i64 i)
    (hK : ∀ w', RowMap w' base b n (upd F i none) (if (F i).isSome then np - 1 else np) → w.grownBy w' (some b) → wpList Tryd.prog ops Q rest (a.put o.dst (.tuple #[])) w') : wpList Tryd.prog ops Q (o :: rest) a w := by
  have hbk := h.block
  obtain ⟨D, h1, h2, h3⟩ := h
  refine wpList_delete_own w hg m x _ _ hop 28 law Tryd.underlying120 _ b n D hm h1 _ _ hx (key hi) fun w' ho hgw => ?_
  have hk : ∀ g' cap' (l' : List Nat), Nums .u8 w (some ⟨g', 0, none⟩) 256 cap' l' → Nums .u8 w' (some ⟨g', 0, none⟩) 256 cap' l' := by
    intro g' cap' l' hn
    obtain ⟨c, t, f, hc⟩ := nums_cells hn (by decide)
    refine nums_of_cells hn (hgw.grown.block g' (Array.getElem?_eq_some_iff.1 hc).1 fun e => ?_)
    obtain ⟨es, ck, hmm⟩ := hbk
    rw [Option.some.inj e] at hc
    rw [hmm] at hc
    cases hc
  refine hK w' ⟨_, ho, ?_, fun j => ?_⟩ hgw.grown
  · have hs := size_del (k := .int .i64 i) (h1.tidy law)
    rw [h2] at hs
    have := h3 i
    cases hF : F i with
    | none => rw [hF] at this; rw [this] at hs; simpa using hs
    | some l' => rw [hF] at this; rw [this.1] at hs; simp at hs ⊢; omega
  · by_cases hj : j = i
    · subst hj
      rw [upd_same]
      exact has_del_same
    · rw [upd_other _ _ hj]
      have := h3 j
      cases hF : F j with
      | none => rw [hF] at this; exact (has_del_other (litne hj)).trans this
      | some l' =>
        rw [hF] at this
        obtain ⟨a, g', cap', b1, b2, b3⟩ := this
        exact ⟨(has_del_other (litne hj)).trans a, g', cap', fun z => (atKey_del_other (litne hj) z).trans (b1 z), hk _ _ _ b2, b3⟩
end Go.Proofs.YtagbnacffiagcaaDoor.MapsW
