/- Maps of ints keyed by an int: 1 at each of the keys; how many. -/
import Derived.Test.YtagbnacffiagcaaDoorGMaps
namespace Go.Proofs.YtagbnacffiagcaaDoor.MapsW
open Go Go.RowKit Go.Maps Go.Proofs.YtagbnacffiagcaaDoor.Mem
set_option linter.unusedVariables false
set_option maxRecDepth 100000

def one? (x : Bool) : Int := if x then 1 else 0
/-- block b of w is a map of ints: 1 at each of its keys, k of them -/
def NumMap (w : World) (b n : Nat) (F : Int → Bool) (k : Nat) : Prop :=
  ∃ D : DataW Unit, w.ownsMap Tryd.prog 3 (plainElem Tryd.prog 3) b n D ∧ Maps.size D = k ∧ ∀ i, D.atKey (.int .i64 i) (.lit (.int .i64 0)) = .lit (.int .i64 (one? (F i))) ∧ Maps.has D (.int .i64 i) = F i
theorem zeroInt (w : World) : (zeroValue 3).run Tryd.prog w = .ok (.int .i64 0) w := by kernel_rfl
theorem NumMap.mono {w : World} {b n n' k : Nat} {F : Int → Bool} (h : NumMap w b n F k) (hn : n ≤ n') : NumMap w b n' F k := by
  obtain ⟨D, h1, h2⟩ := h
  exact ⟨D, h1.mono hn, h2⟩
theorem NumMap.block {w : World} {b n k : Nat} {F : Int → Bool} (h : NumMap w b n F k) : ∃ es ck, w.heap[b]? = some (.map es ck) := by
  obtain ⟨D, ⟨es, ck, h1, _⟩, _⟩ := h
  exact ⟨es, ck, h1⟩
theorem NumMap.still {w w' : World} {b n k : Nat} {F : Int → Bool} (h : NumMap w b n F k) (e : w'.heap[b]? = w.heap[b]?) : NumMap w' b n F k := by
  obtain ⟨D, h1, h2⟩ := h
  exact ⟨D, ownsMap_of h1 e, h2⟩
theorem NumMap.made (w : World) : NumMap (w.alloc (.map #[] 0)) w.heap.size 0 (fun _ => false) 0 :=
  ⟨.map [], World.ownsMap_made _ _ _ _, rfl, fun i => ⟨rfl, rfl⟩⟩
theorem NumMap.look {w : World} {b n k : Nat} {F : Int → Bool} (h : NumMap w b n F k) {i : Int} (hi : Fits i) :
    (Instr.lookup 146 (.map (some b)) (.int .i64 i) false).run Tryd.prog w = .ok (.int .i64 (one? (F i))) w := by
  obtain ⟨D, h1, _, h2⟩ := h
  obtain ⟨v, ps, hr, hv⟩ := h1.lookup law Tryd.underlying146 (zeroInt w) (zd := .lit (.int .i64 0)) (zp := []) (plainElem_int Tryd.underlying3 (by decide)) (key hi)
  rw [(h2 i).1] at hv
  obtain ⟨a, rfl, e, _⟩ := plainElem_int_inv Tryd.underlying3 hv
  cases e
  exact hr
theorem NumMap.look0 {w : World} {b n k : Nat} {F : Int → Bool} (h : NumMap w b n F k) {i : Int} (hi : Fits i) (hF : F i = false) :
    (Instr.lookup 146 (.map (some b)) (.int .i64 i) false).run Tryd.prog w = .ok (.int .i64 0) w := by
  have := h.look hi; rw [hF] at this; exact this
theorem NumMap.look1 {w : World} {b n k : Nat} {F : Int → Bool} (h : NumMap w b n F k) {i : Int} (hi : Fits i) (hF : F i = true) :
    (Instr.lookup 146 (.map (some b)) (.int .i64 i) false).run Tryd.prog w = .ok (.int .i64 1) w := by
  have := h.look hi; rw [hF] at this; exact this
theorem wpList_putNum (w : World) {ops : Array Oper} {rest : List Oper} {o : Oper} {a : Act} {Q : Exit → Act → World → Prop} (hg : o.guard = none) (m x v : Operand) (hop : o.op = Op.mapUpdate 146 m x v)
    {b n k : Nat} {F : Int → Bool} (h : NumMap w b n F k) (hn : n < 1000000) {i : Int} (hi : Fits i)
    (hm : a.eval m = .map (some b)) (hx : a.eval x = .int .i64 i) (hv : a.eval v = .int .i64 1)
    (hK : ∀ w', NumMap w' b (n + 1) (upd F i true) (if F i then k else k + 1) → w.grownBy w' (some b) → wpList Tryd.prog ops Q rest (a.put o.dst undef) w') : wpList Tryd.prog ops Q (o :: rest) a w := by
  obtain ⟨D, h1, h3, h2⟩ := h
  refine wpList_mapUpdate_own w hg m x v _ hop 3 3 law Tryd.underlying146 _ b n D hm h1 (by unfold maxLen; omega) _ _ _ hx hv (key hi) _ [] (plainElem_int Tryd.underlying3 (by decide)) fun w' ho hgw => ?_
  refine hK w' ⟨_, ho, ?_, fun j => ?_⟩ hgw
  · rw [size_put (h1.tidy law), (h2 i).2, h3]
  · by_cases hj : j = i
    · subst hj
      rw [upd_same, atKey_put_same (h1.tidy law).isMap (islit j)]
      exact ⟨rfl, has_put_same (h1.tidy law).isMap (islit j) _⟩
    · rw [upd_other _ _ hj, atKey_put_other (litne hj), (h2 j).1]
      exact ⟨rfl, (has_put_other (litne hj) _).trans (h2 j).2⟩
theorem wpList_delNum (w : World) {ops : Array Oper} {rest : List Oper} {o : Oper} {a : Act} {Q : Exit → Act → World → Prop} (hg : o.guard = none) (m x : Operand) (hop : o.op = Op.call { callee := Callee.builtin Builtin.delete, args := #[m, x], argTypes := #[146, 3] })
    {b n k : Nat} {F : Int → Bool} (h : NumMap w b n F k) {i : Int} (hi : Fits i)
    (hm : a.eval m = .map (some b)) (hx : a.eval x = .int .i64 i)
    (hK : ∀ w', NumMap w' b n (upd F i false) (if F i then k - 1 else k) → w.grownBy w' (some b) → wpList Tryd.prog ops Q rest (a.put o.dst (.tuple #[])) w') : wpList Tryd.prog ops Q (o :: rest) a w := by
  obtain ⟨D, h1, h3, h2⟩ := h
  refine wpList_delete_own w hg m x _ _ hop 3 law Tryd.underlying146 _ b n D hm h1 _ _ hx (key hi) fun w' ho hgw => ?_
  refine hK w' ⟨_, ho, ?_, fun j => ?_⟩ hgw.grown
  · have hs := size_del (k := .int .i64 i) (h1.tidy law)
    rw [h3, (h2 i).2] at hs
    cases hF : F i with
    | false => rw [hF] at hs; simpa using hs
    | true => rw [hF] at hs; simp at hs ⊢; omega
  · by_cases hj : j = i
    · subst hj
      rw [upd_same]
      exact ⟨atKey_del_same _, has_del_same⟩
    · rw [upd_other _ _ hj]
      exact ⟨(atKey_del_other (litne hj) _).trans (h2 j).1, (has_del_other (litne hj)).trans (h2 j).2⟩
theorem NumMap.len {w : World} {b n k : Nat} {F : Int → Bool} (h : NumMap w b n F k) : ∃ D : DataW Unit, w.ownsMap Tryd.prog 3 (plainElem Tryd.prog 3) b n D ∧ Maps.size D = k := by
  obtain ⟨D, h1, h2, _⟩ := h
  exact ⟨D, h1, h2⟩
end Go.Proofs.YtagbnacffiagcaaDoor.MapsW
