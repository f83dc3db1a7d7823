/- Maps keyed by an int: of rows of bytes, of bools. -/
import Derived.Test.YtagbnacffiagcaaDoorMem
import Derived.Test.YtagbnacffiagcaaDoorRefWalk
import Derived.Maps.OwnOps
import Derived.Maps.OwnSet
import Derived.Maps.RangeWalk
import Derived.Maps.Ext
namespace Go.Proofs.YtagbnacffiagcaaDoor.MapsW
open Go Go.RowKit Go.Maps Go.Proofs.YtagbnacffiagcaaDoor.Mem
set_option linter.unusedVariables false
set_option maxRecDepth 100000

theorem law : Keyed Tryd.prog 3 := int_keyed Tryd.underlying3
theorem wfi {i : Int} (h : -9223372036854775808 ≤ i ∧ i ≤ 9223372036854775807) : (Lit.int .i64 i).wf = true := by
  simp [Lit.wf, IntKind.min, IntKind.max, IntKind.signed, IntKind.bits]; omega
theorem key {i : Int} (h : -9223372036854775808 ≤ i ∧ i ≤ 9223372036854775807) : keyOf Tryd.prog 3 (.int .i64 i) = some (.int .i64 i) := keyOf_int_mk Tryd.underlying3 (wfi h)
theorem islit (i : Int) : WideAt.IsKeyLit (.int .i64 i) := trivial
/-- an int that fits -/
abbrev Fits (i : Int) : Prop := -9223372036854775808 ≤ i ∧ i ≤ 9223372036854775807

/-- how an element that is a row reads: its block, its length, its room -/
def rowd (g n cap : Nat) : DataW Unit := .agg [.lit (.int .i64 g), .lit (.int .i64 n), .lit (.int .i64 cap)]
def rowR : Value → Option (DataW Unit × List MemPlace)
  | .slice none 0 0 => some (.nil, [])
  | .slice (some ⟨g, 0, none⟩) n cap => some (rowd g n cap, [])
  | _ => none
theorem rowR_nil {v : Value} {ps : List MemPlace} (h : rowR v = some (.nil, ps)) : v = .slice none 0 0 := by
  unfold rowR at h
  split at h
  · rfl
  · simp [rowd] at h
  · cases h
theorem rowR_row {v : Value} {g n cap : Nat} {ps : List MemPlace} (h : rowR v = some (rowd g n cap, ps)) : v = .slice (some ⟨g, 0, none⟩) n cap := by
  unfold rowR at h
  split at h
  · simp [rowd] at h
  · simp only [rowd, Option.some.injEq, Prod.mk.injEq, DataW.agg.injEq, List.cons.injEq, DataW.lit.injEq, Lit.int.injEq, true_and, and_true, Int.natCast_inj] at h
    obtain ⟨⟨rfl, rfl, rfl⟩, _⟩ := h
    rfl
  · cases h
theorem rowR_mk (g n cap : Nat) : rowR (.slice (some ⟨g, 0, none⟩) n cap) = some (rowd g n cap, []) := rfl

/-- block b of w is a map of rows of 256 bytes, one at each key at which F has one; np of them; the rows lie from base on -/
def RowMap (w : World) (base b n : Nat) (F : Int → Option (List Nat)) (np : Nat) : Prop :=
  ∃ D, w.ownsMap Tryd.prog 3 rowR b n D ∧ Maps.size D = np ∧
    ∀ i, match F i with
      | none => Maps.has D (.int .i64 i) = false
      | some l => Maps.has D (.int .i64 i) = true ∧ ∃ g cap, (∀ z, D.atKey (.int .i64 i) z = rowd g 256 cap) ∧ Nums .u8 w (some ⟨g, 0, none⟩) 256 cap l ∧ base ≤ g
/-- block b of w is a map of bools -/
def BoolMap (w : World) (b n : Nat) (F : Int → Bool) : Prop :=
  ∃ D : DataW Unit, w.ownsMap Tryd.prog 3 (plainElem Tryd.prog 4) b n D ∧ ∀ i, D.atKey (.int .i64 i) (.lit (.bool false)) = .lit (.bool (F i))

theorem zeroRow (w : World) : (zeroValue 28).run Tryd.prog w = .ok (.slice none 0 0) w := by kernel_rfl
theorem zeroBool (w : World) : (zeroValue 4).run Tryd.prog w = .ok (.bool false) w := by kernel_rfl

theorem RowMap.mono {w : World} {base base' b n n' : Nat} {F : Int → Option (List Nat)} {np : Nat} (h : RowMap w base b n F np) (hn : n ≤ n') (hb : base' ≤ base) : RowMap w base' b n' F np := by
  obtain ⟨D, h1, h2, h3⟩ := h
  refine ⟨D, h1.mono hn, h2, fun i => ?_⟩
  have := h3 i
  cases hF : F i with
  | none => rw [hF] at this; exact this
  | some l =>
    rw [hF] at this
    obtain ⟨a, g, cap, b1, b2, b3⟩ := this
    exact ⟨a, g, cap, b1, b2, by omega⟩
theorem BoolMap.mono {w : World} {b n n' : Nat} {F : Int → Bool} (h : BoolMap w b n F) (hn : n ≤ n') : BoolMap w b n' F := by
  obtain ⟨D, h1, h2⟩ := h
  exact ⟨D, h1.mono hn, h2⟩
/-- a map's block -/
theorem RowMap.block {w : World} {base b n : Nat} {F : Int → Option (List Nat)} {np : Nat} (h : RowMap w base b n F np) : ∃ es ck, w.heap[b]? = some (.map es ck) := by
  obtain ⟨D, ⟨es, ck, h1, _⟩, _⟩ := h
  exact ⟨es, ck, h1⟩
theorem BoolMap.block {w : World} {b n : Nat} {F : Int → Bool} (h : BoolMap w b n F) : ∃ es ck, w.heap[b]? = some (.map es ck) := by
  obtain ⟨D, ⟨es, ck, h1, _⟩, _⟩ := h
  exact ⟨es, ck, h1⟩

/-- what is written elsewhere: the map's block, and each block of cells but d, are as they were -/
structure Still (d : Nat) (w w' : World) (b : Nat) : Prop where
  map : w'.heap[b]? = w.heap[b]?
  cells : ∀ k c t f, k ≠ d → w.heap[k]? = some (.cells c t f) → w'.heap[k]? = w.heap[k]?
theorem ownsMap_of {H : Type} {w w' : World} {P : Program} {k : TypeId} {R : Value → Option (DataW H × List MemPlace)} {b n : Nat} {D : DataW H} (h : w.ownsMap P k R b n D) (e : w'.heap[b]? = w.heap[b]?) : w'.ownsMap P k R b n D := by
  obtain ⟨es, ck, h1, h2⟩ := h
  exact ⟨es, ck, e.trans h1, h2⟩
theorem cell_cells {w : World} {b o : Nat} {v : Value} (h : w.cell? ⟨b, o, none⟩ = some v) : ∃ c t f, w.heap[b]? = some (.cells c t f) := by
  unfold World.cell? at h
  cases hb : w.heap[b]? with
  | none => simp [hb] at h
  | some o => cases o <;> simp [hb] at h ⊢
theorem nums_of_cells {k : IntKind} {w w' : World} {g n cap : Nat} {l : List Nat} (h : Nums k w (some ⟨g, 0, none⟩) n cap l) (e : w'.heap[g]? = w.heap[g]?) : Nums k w' (some ⟨g, 0, none⟩) n cap l := by
  obtain ⟨h1, h2, h3, h4, h5⟩ := h
  refine ⟨h1, h2, h3, h4, fun j u hj => ?_⟩
  obtain ⟨b, o, he, hc⟩ := h5 j u hj
  refine ⟨b, o, he, ?_⟩
  cases he
  rw [World.cell?_of_block (w := w) e]
  exact hc
theorem nums_cells {k : IntKind} {w : World} {g n cap : Nat} {l : List Nat} (h : Nums k w (some ⟨g, 0, none⟩) n cap l) (hn : 0 < n) : ∃ c t f, w.heap[g]? = some (.cells c t f) := by
  obtain ⟨b, o, he, hc⟩ := h.at (j := 0) (by rw [h.len]; exact hn)
  cases he
  exact cell_cells hc
theorem RowMap.still {w w' : World} {d base b n : Nat} {F : Int → Option (List Nat)} {np : Nat} (h : RowMap w base b n F np) (hd : d < base) (hs : Still d w w' b) : RowMap w' base b n F np := by
  obtain ⟨D, h1, h2, h3⟩ := h
  refine ⟨D, ownsMap_of h1 hs.map, h2, fun i => ?_⟩
  have := h3 i
  cases hF : F i with
  | none => rw [hF] at this; exact this
  | some l =>
    rw [hF] at this
    obtain ⟨a, g, cap, b1, b2, b3⟩ := this
    obtain ⟨c, t, f, hc⟩ := nums_cells b2 (by decide)
    exact ⟨a, g, cap, b1, nums_of_cells b2 (hs.cells g c t f (by omega) hc), b3⟩
theorem BoolMap.still {w w' : World} {b n : Nat} {F : Int → Bool} (h : BoolMap w b n F) (e : w'.heap[b]? = w.heap[b]?) : BoolMap w' b n F := by
  obtain ⟨D, h1, h2⟩ := h
  exact ⟨D, ownsMap_of h1 e, h2⟩

/-- a new map -/
theorem RowMap.made (w : World) (base : Nat) : RowMap (w.alloc (.map #[] 0)) base w.heap.size 0 (fun _ => none) 0 :=
  ⟨.map [], World.ownsMap_made _ _ _ _, rfl, fun i => rfl⟩
theorem BoolMap.made (w : World) : BoolMap (w.alloc (.map #[] 0)) w.heap.size 0 (fun _ => false) :=
  ⟨.map [], World.ownsMap_made _ _ _ _, fun i => rfl⟩

/-- what is looked up -/
theorem RowMap.look_none {w : World} {base b n : Nat} {F : Int → Option (List Nat)} {np : Nat} (h : RowMap w base b n F np) {i : Int} (hi : Fits i) (hF : F i = none) :
    (Instr.lookup 120 (.map (some b)) (.int .i64 i) false).run Tryd.prog w = .ok (.slice none 0 0) w := by
  obtain ⟨D, h1, _, h3⟩ := h
  have := h3 i
  rw [hF] at this
  obtain ⟨v, ps, hr, hv⟩ := h1.lookup law Tryd.underlying120 (zeroRow w) (zd := .nil) (zp := []) rfl (key hi)
  rw [atKey_of_not_has this] at hv
  rw [rowR_nil hv] at hr
  exact hr
theorem RowMap.look_some {w : World} {base b n : Nat} {F : Int → Option (List Nat)} {np : Nat} (h : RowMap w base b n F np) {i : Int} (hi : Fits i) {l : List Nat} (hF : F i = some l) :
    ∃ g cap, (Instr.lookup 120 (.map (some b)) (.int .i64 i) false).run Tryd.prog w = .ok (.slice (some ⟨g, 0, none⟩) 256 cap) w ∧ Nums .u8 w (some ⟨g, 0, none⟩) 256 cap l ∧ base ≤ g := by
  obtain ⟨D, h1, _, h3⟩ := h
  have := h3 i
  rw [hF] at this
  obtain ⟨_, g, cap, b1, b2, b3⟩ := this
  obtain ⟨v, ps, hr, hv⟩ := h1.lookup law Tryd.underlying120 (zeroRow w) (zd := .nil) (zp := []) rfl (key hi)
  rw [b1] at hv
  rw [rowR_row hv] at hr
  exact ⟨g, cap, hr, b2, b3⟩
theorem BoolMap.look {w : World} {b n : Nat} {F : Int → Bool} (h : BoolMap w b n F) {i : Int} (hi : Fits i) :
    (Instr.lookup 121 (.map (some b)) (.int .i64 i) false).run Tryd.prog w = .ok (.bool (F i)) w := by
  obtain ⟨D, h1, h2⟩ := h
  obtain ⟨v, ps, hr, hv⟩ := h1.lookup law Tryd.underlying121 (zeroBool w) (zd := .lit (.bool false)) (zp := []) (plainElem_bool Tryd.underlying4 false) (key hi)
  rw [h2 i] at hv
  have : v = .bool (F i) := by
    unfold plainElem at hv
    rw [Tryd.underlying4] at hv
    cases v <;> simp at hv
    rw [hv.1]
  rw [this] at hr
  exact hr

/-- one more, or another, at a key -/
def upd {α : Type} (F : Int → α) (i : Int) (x : α) : Int → α := fun j => if j = i then x else F j
theorem upd_same {α : Type} (F : Int → α) (i : Int) (x : α) : upd F i x i = x := if_pos rfl
theorem upd_other {α : Type} (F : Int → α) {i j : Int} (x : α) (h : j ≠ i) : upd F i x j = F j := if_neg h
theorem litne {i j : Int} (h : j ≠ i) : (Lit.int .i64 j) ≠ Lit.int .i64 i := fun e => h (Lit.int.inj e).2

theorem RowMap.put {w w' : World} {base b n : Nat} {F : Int → Option (List Nat)} {np : Nat} {D : DataW Unit} {i : Int} {g cap : Nat} {l : List Nat}
    (h2 : Maps.size D = np) (h3 : ∀ i, match F i with
      | none => Maps.has D (.int .i64 i) = false
      | some l => Maps.has D (.int .i64 i) = true ∧ ∃ g cap, (∀ z, D.atKey (.int .i64 i) z = rowd g 256 cap) ∧ Nums .u8 w (some ⟨g, 0, none⟩) 256 cap l ∧ base ≤ g)
    (hT : Tidy D) (hown : w'.ownsMap Tryd.prog 3 rowR b (n + 1) (D.put (.int .i64 i) (rowd g 256 cap))) (hg : w.grownBy w' (some b)) (hb : ∃ es ck, w.heap[b]? = some (.map es ck))
    (hl : Nums .u8 w (some ⟨g, 0, none⟩) 256 cap l) (hbg : base ≤ g) : RowMap w' base b (n + 1) (upd F i (some l)) (if (F i).isSome then np else np + 1) := by
  have hk : ∀ g' cap' (l' : List Nat), Nums .u8 w (some ⟨g', 0, none⟩) 256 cap' l' → Nums .u8 w' (some ⟨g', 0, none⟩) 256 cap' l' := by
    intro g' cap' l' hn
    obtain ⟨c, t, f, hc⟩ := nums_cells hn (by decide)
    refine nums_of_cells hn (hg.block g' (Array.getElem?_eq_some_iff.1 hc).1 fun e => ?_)
    obtain ⟨es, ck, hm⟩ := hb
    rw [Option.some.inj e] at hc
    rw [hm] at hc
    cases hc
  refine ⟨_, hown, ?_, fun j => ?_⟩
  · rw [size_put hT, h2]
    have := h3 i
    cases hF : F i with
    | none => rw [hF] at this; rw [this]; rfl
    | some l' => rw [hF] at this; rw [this.1]; rfl
  · by_cases hj : j = i
    · subst hj
      rw [upd_same]
      exact ⟨has_put_same hT.isMap (islit j) _, g, cap, fun z => atKey_put_same hT.isMap (islit j) _ z, hk _ _ _ hl, hbg⟩
    · rw [upd_other _ _ hj]
      have := h3 j
      cases hF : F j with
      | none => rw [hF] at this; exact (has_put_other (litne hj) _).trans this
      | some l' =>
        rw [hF] at this
        obtain ⟨a, g', cap', b1, b2, b3⟩ := this
        exact ⟨(has_put_other (litne hj) _).trans a, g', cap', fun z => (atKey_put_other (litne hj) _ z).trans (b1 z), hk _ _ _ b2, b3⟩

/-- 'm[i] = b' -/
theorem wpList_putRow (w : World) {ops : Array Oper} {rest : List Oper} {o : Oper} {a : Act} {Q : Exit → Act → World → Prop} (hg : o.guard = none) (m x v : Operand) (hop : o.op = Op.mapUpdate 120 m x v)
    {base b n : Nat} {F : Int → Option (List Nat)} {np : Nat} (h : RowMap w base b n F np) (hn : n < 1000000) {i : Int} (hi : Fits i) {g cap : Nat} {l : List Nat} (hl : Nums .u8 w (some ⟨g, 0, none⟩) 256 cap l) (hbg : base ≤ g)
    (hm : a.eval m = .map (some b)) (hx : a.eval x = .int .i64 i) (hv : a.eval v = .slice (some ⟨g, 0, none⟩) 256 cap)
    (hK : ∀ w', RowMap w' base b (n + 1) (upd F i (some l)) (if (F i).isSome then np else np + 1) → w.grownBy w' (some b) → wpList Tryd.prog ops Q rest (a.put o.dst undef) w') : wpList Tryd.prog ops Q (o :: rest) a w := by
  have hb := h.block
  obtain ⟨D, h1, h2, h3⟩ := h
  refine wpList_mapUpdate_own w hg m x v _ hop 3 28 law Tryd.underlying120 rowR b n D hm h1 (by unfold maxLen; omega) _ _ _ hx hv (key hi) _ [] (rowR_mk g 256 cap) fun w' ho hgw => ?_
  exact hK w' (RowMap.put h2 h3 (h1.tidy law) ho hgw hb hl hbg) hgw
/-- the same as an equation on the operation's run -/
theorem RowMap.store {w : World} {base b n : Nat} {F : Int → Option (List Nat)} {np : Nat} (h : RowMap w base b n F np) (hn : n < 1000000) {i : Int} (hi : Fits i) {g cap : Nat} {l : List Nat} (hl : Nums .u8 w (some ⟨g, 0, none⟩) 256 cap l) (hbg : base ≤ g) :
    ∃ w', (Instr.mapUpdate 120 (.map (some b)) (.int .i64 i) (.slice (some ⟨g, 0, none⟩) 256 cap)).run Tryd.prog w = .ok () w' ∧ RowMap w' base b (n + 1) (upd F i (some l)) (if (F i).isSome then np else np + 1) ∧ w.grownBy w' (some b) := by
  have hb := h.block
  obtain ⟨D, h1, h2, h3⟩ := h
  obtain ⟨w', hr, ho, hgw⟩ := h1.update law Tryd.underlying120 (by unfold maxLen; omega) (key hi) (rowR_mk g 256 cap)
  exact ⟨w', hr, RowMap.put h2 h3 (h1.tidy law) ho hgw hb hl hbg, hgw⟩
theorem wpList_putBool (w : World) {ops : Array Oper} {rest : List Oper} {o : Oper} {a : Act} {Q : Exit → Act → World → Prop} (hg : o.guard = none) (m x v : Operand) (hop : o.op = Op.mapUpdate 121 m x v)
    {b n : Nat} {F : Int → Bool} (h : BoolMap w b n F) (hn : n < 1000000) {i : Int} (hi : Fits i) (y : Bool)
    (hm : a.eval m = .map (some b)) (hx : a.eval x = .int .i64 i) (hv : a.eval v = .bool y)
    (hK : ∀ w', BoolMap w' b (n + 1) (upd F i y) → w.grownBy w' (some b) → wpList Tryd.prog ops Q rest (a.put o.dst undef) w') : wpList Tryd.prog ops Q (o :: rest) a w := by
  obtain ⟨D, h1, h2⟩ := h
  refine wpList_mapUpdate_own w hg m x v _ hop 3 4 law Tryd.underlying121 _ b n D hm h1 (by unfold maxLen; omega) _ _ _ hx hv (key hi) _ [] (plainElem_bool Tryd.underlying4 y) fun w' ho hgw => ?_
  refine hK w' ⟨_, ho, fun j => ?_⟩ hgw
  by_cases hj : j = i
  · subst hj
    rw [upd_same, atKey_put_same (h1.tidy law).isMap (islit j)]
  · rw [upd_other _ _ hj, atKey_put_other (litne hj), h2]
theorem wpList_delBool (w : World) {ops : Array Oper} {rest : List Oper} {o : Oper} {a : Act} {Q : Exit → Act → World → Prop} (hg : o.guard = none) (m x : Operand) (hop : o.op = Op.call { callee := Callee.builtin Builtin.delete, args := #[m, x], argTypes := #[121, 3] })
    {b n : Nat} {F : Int → Bool} (h : BoolMap w b n F) {i : Int} (hi : Fits i)
    (hm : a.eval m = .map (some b)) (hx : a.eval x = .int .i64 i)
    (hK : ∀ w', BoolMap w' b n (upd F i false) → w.grownBy w' (some b) → wpList Tryd.prog ops Q rest (a.put o.dst (.tuple #[])) w') : wpList Tryd.prog ops Q (o :: rest) a w := by
  obtain ⟨D, h1, h2⟩ := h
  refine wpList_delete_own w hg m x _ _ hop 4 law Tryd.underlying121 _ b n D hm h1 _ _ hx (key hi) fun w' ho hgw => ?_
  refine hK w' ⟨_, ho, fun j => ?_⟩ hgw.grown
  by_cases hj : j = i
  · subst hj
    rw [upd_same, atKey_del_same]
  · rw [upd_other _ _ hj, atKey_del_other (litne hj), h2]
end Go.Proofs.YtagbnacffiagcaaDoor.MapsW
