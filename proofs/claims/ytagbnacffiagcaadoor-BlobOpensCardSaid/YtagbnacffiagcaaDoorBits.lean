/- Small parts that the texts on roots and on areas share. -/
import Derived.Test.YtagbnacffiagcaaDoorRefs
import Derived.Test.YtagbnacffiagcaaDoorGDevPut
import Derived.Deep.AppendLies
import Derived.Deep.RegionLaw
import Derived.WalkSpells
import Derived.StillTactics
import Derived.OwnWalk
namespace Go.Proofs.YtagbnacffiagcaaDoor.DevG
open Go Go.RowKit Go.Maps Go.Proofs.YtagbnacffiagcaaDoor.Mem Go.Proofs.YtagbnacffiagcaaDoor.MapsW Go.Proofs.YtagbnacffiagcaaDoor.SeeW
theorem At.old {w : World} {lo d n : Nat} {m : Mp} {D : Dv} (h : At w lo d n m D) : ∀ x ∈ own d m, x < w.heap.size := by
  intro x hx
  rcases List.mem_cons.1 hx with rfl | hx
  · exact h.dlt
  · obtain ⟨es, ck, hb⟩ := h.maps x hx
    exact (Array.getElem?_eq_some_iff.1 hb).1
theorem Ev.of_bs {w : World} {bs : List Addr} (h : SeeW.Bs w bs) (I : List Nat) (hI : ∀ i ∈ I, i < 24) : Ev w w.heap.size bs I := by
  obtain ⟨h1, h2, h3⟩ := h
  refine ⟨fun i hi g hg => ?_, fun i hi j hj e => (List.getElem?_inj (by rw [h1]; exact hI i hi) h2).1 e⟩
  obtain ⟨a, ha, hA⟩ := h3 i g hg
  exact ⟨a, ha, hA, World.block_lt_of_cell? w ⟨g, 0, none⟩ hA.1, hA.lt⟩
end Go.Proofs.YtagbnacffiagcaaDoor.DevG
namespace Go.Proofs.YtagbnacffiagcaaDoor.RootW
open Go Go.RowKit Go.Maps Go.Proofs.YtagbnacffiagcaaDoor.Mem Go.Proofs.YtagbnacffiagcaaDoor.MapsW Go.Proofs.YtagbnacffiagcaaDoor.SeeW Go.Proofs.YtagbnacffiagcaaDoor.RefsW Go.Proofs.YtagbnacffiagcaaDoor.DevG
set_option linter.unusedVariables false
set_option maxRecDepth 100000

/-- a root's errors, and a device's -/
abbrev six : List Nat := [1, 2, 3, 4, 5, 6]
theorem blk_c {w : World} {R : Nat} {x y : Value} {t : TypeId} (h : w.heap[R]? = some (.cells #[x, y] t)) : w.cell? ⟨R, 0, none⟩ = some x ∧ w.cell? ⟨R, 1, none⟩ = some y ∧ w.frozen? ⟨R, 0, none⟩ = false ∧ w.frozen? ⟨R, 1, none⟩ = false := by
  refine ⟨by simp [World.cell?, h], by simp [World.cell?, h], by simp [World.frozen?, h], by simp [World.frozen?, h]⟩
theorem own_ge {w : World} {base : Nat} {e : TypeId} {size : Nat} {a : Option Addr} {n cap m : Nat} {xs : List Value} (h : w.ownsRow base e size (.slice a n cap) m xs) : ∀ b o, a = some ⟨b, o, none⟩ → base ≤ b := by
  rintro b o rfl
  rcases h.2 with ⟨h0, _⟩ | ⟨g, c, cur, hv, hb, _⟩
  · cases h0
  · cases hv; exact hb
theorem Refs.far {w : World} {a : Option Addr} {n cap : Nat} {rs : List (Int × Nat)} (h : Refs w a n cap rs) {B : Nat} (hB : ∀ b o, a = some ⟨b, o, none⟩ → B < b) (j : Nat) (x : Value) : Refs (w.setCell ⟨B, j, none⟩ x) a n cap rs :=
  Row.keep h fun b o e _ => heap_setCell_other _ ⟨B, j, none⟩ _ _ (by have := hB b o e; simp; omega)
theorem frozen_keep {B : Nat} {w w' : World} {b o : Nat} (hb : Below B w w') (hlt : b < B) : w'.frozen? ⟨b, o, none⟩ = w.frozen? ⟨b, o, none⟩ :=
  World.frozen?_of_block (hb.block b hlt)
/-- a call that changes nothing, in a region that draws its order -/
theorem step_call {P : Program} {ops : Array Oper} {o : Oper} {a : Act} {K : Act → World → Prop} {Q : Exit → Act → World → Prop} {E : Prop} {w : World} (hgd : o.guard = none)
    (f : FuncId) (args : Array Value) (hrun : (execOp a.eval o).run P w = .ok (.enter f args) w) (R : Value) (hc : Calls P f args w fun e w' => e = .returned R ∧ w = w') (h : K (a.put o.dst R) w) :
    if Region.wanted o (yielded ops a.tmps) = true then Oper.wp P o a w K Q else E := by
  have hw : Region.wanted o (yielded ops a.tmps) = true := by simp [Region.wanted, hgd]
  rw [if_pos hw]
  unfold Oper.wp
  rw [hrun, Oper.upon_enter]
  refine hc.mono ?_
  rintro e w' ⟨rfl, rfl⟩
  exact h
/-- a place appended, in a region that draws its order -/
theorem step_push2 {ops : Array Oper} {o : Oper} {a : Act} {K : Act → World → Prop} {Q : Exit → Act → World → Prop} {E : Prop} {w : World} (hgd : o.guard = none) (s x : Operand)
    (ho : o.op = .call { callee := .builtin .append, args := #[s, x], argTypes := #[97, 97] })
    (base : Nat) (v : Value) (n : Nat) (rs : List (Int × Nat)) (hs : a.eval s = v) (hown : OwnRefs w base v n rs)
    (g : Nat) (y : Int) (z : Nat) (hx : a.eval x = .slice (some ⟨g, 0, none⟩) 1 1) (hr : Row w 2 (some ⟨g, 0, none⟩) 1 1 [.int .i64 y, .int .u32 (z : Int)]) (hn : n ≤ 1000000000) (hbase : base ≤ w.heap.size)
    (h : ∀ g' cap' w', OwnRefs w' base (.slice (some ⟨g', 0, none⟩) (n + 1) cap') (n + 1) (rs ++ [(y, z)]) → Below base w w' → w.grownBy w' v.ownBlock → K (a.put o.dst (.slice (some ⟨g', 0, none⟩) (n + 1) cap')) w') :
    if Region.wanted o (yielded ops a.tmps) = true then Oper.wp Tryd.prog o a w K Q else E := by
  obtain ⟨i, hi, hz0, hz1, hz2⟩ := info_parts elRef.hi
  refine step_append_lies w hgd s x _ ho base _ i _ 2 16 elRef.ht hi hz0 hz1 hz2 elRef.hz elRef.h0 v n _ hs hown ⟨g, 0, none⟩ 1 1 [.int .i64 y, .int .u32 (z : Int)] hx rfl ?_ (oneCell2 rfl rfl) (by decide) (by unfold maxLen; omega) (by omega) hbase _ rfl ?_
  · intro j u hj
    obtain ⟨b, off, ha, hc⟩ := hr.2.2.2.2 j u hj
    cases ha
    rw [Addr.add_lit]
    exact hc
  · intro g' cap' w' h2 h3 _ _
    refine h _ _ w' ?_ ((Below.refl _ _).grown h3 hbase fun b hb => (hown.lt b hb).1) h3
    show World.ownsRow _ _ _ _ _ _ (refCells (rs ++ [(y, z)]))
    rw [refCells_append]
    exact h2

end Go.Proofs.YtagbnacffiagcaaDoor.RootW
