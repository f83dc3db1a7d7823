/- What a row's listed error variables give a walk: each variable holds a pointer of its own. -/
import Derived.Test.YtagbnacffiagcaaDoorProg
import Derived.LaidLaws
import Derived.LaidMore
import Derived.LaidHandle
import Derived.MakeChecks
import Derived.Stop.LaidErr
import Derived.KernelRfl
import Derived.Below
namespace Go.Proofs.YtagbnacffiagcaaDoor.Err
open Go Go.RowKit Go.ChangeShapes
set_option maxRecDepth 100000

/-- an error that was made of a text, as a listed datum -/
def datum (t : List UInt8) : DataW Unit := .iface "*errors.errorString" (.ptr (.agg [.lit (.string t)]))
abbrev tp : TypeId := 213
/-- the variable at g holds the error at a -/
def At (w : World) (g : Nat) (a : Addr) : Prop := w.cell? ⟨g, 0, none⟩ = some (.iface tp (.pointer (some a))) ∧ ∃ c t, w.heap[a.block]? = some (.cells c t (0, 0))
theorem At.lt {w : World} {g : Nat} {a : Addr} (h : At w g a) : a.block < w.heap.size := by
  obtain ⟨_, c, t, h2⟩ := h
  rcases Nat.lt_or_ge a.block w.heap.size with h | h
  · exact h
  · rw [Array.getElem?_eq_none h] at h2; cases h2
theorem At.below {w w' : World} {g : Nat} {a : Addr} (h : At w g a) (hb : Below w.heap.size w w') : At w' g a := by
  have hl := h.lt
  obtain ⟨h1, c, t, h2⟩ := h
  refine ⟨?_, c, t, ?_⟩
  · have := World.block_lt_of_cell? w ⟨g, 0, none⟩ h1
    rw [hb.cell (p := ⟨g, 0, none⟩) this]
    exact h1
  · rw [hb.block _ hl]; exact h2

theorem star : "*" ++ "errors.errorString" = "*errors.errorString" := by decide
theorem hrow (u : TypeId) (h : Tryd.prog.typeName? 3 u = some "*errors.errorString") : u = tp :=
  typeName_ptr_named (P := Tryd.prog) (nm := "errors.errorString") (by rw [star]; kernel_rfl) (by kernel_rfl) (by decide) u (by rw [star]; exact h)

theorem of_vars {W : World} : ∀ (l : List (String × List UInt8)) (ps : List MemPlace), DataW.LaidVars Tryd.prog W (l.map fun x => (x.1, datum x.2)) ps →
    (∀ b off, MemPlace.cell b off ∈ ps → (∃ c t, W.heap[b]? = some (.cells c t (0, 0))) ∧ ∀ u v, W.cell? ⟨b, off, none⟩ = some (.iface u v) → Value.okWide Tryd.prog W .any 0 u v) →
    (∀ x ∈ l, ∃ g, Tryd.prog.globalNamed x.1 = some g ∧ (Tryd.prog.globals[g]?).map (·.type) = some 38) →
    ∃ bs : List Addr, bs.length = l.length ∧ (bs.map fun a => MemPlace.cell a.block a.off).Sublist ps ∧
      ∀ (i : Nat) (x : String × List UInt8) (g : Nat), l[i]? = some x → Tryd.prog.globalNamed x.1 = some g → ∃ a, bs[i]? = some a ∧ At W g a := by
  intro l
  induction l with
  | nil => intro ps _ _ _; exact ⟨[], rfl, List.nil_sublist _, fun i x g h => by simp at h⟩
  | cons x r ih =>
    intro ps hv hok hg
    obtain ⟨g0, t0, cs0, f0, p0, q0, hg0, ht0, hv0, hd0, hq, rfl⟩ := hv
    obtain ⟨g, hgn, hgt⟩ := hg x (by simp)
    obtain rfl := Option.some.inj (hgn.symm.trans hg0)
    obtain rfl := Option.some.inj (hgt.symm.trans ht0)
    obtain ⟨l0⟩ := cs0
    have ok0 : ∀ u v, l0 = [.iface u v] → Value.okWide Tryd.prog W .any 0 u v := fun u v e => by
      subst e
      exact (hok g 0 (by simp [MemPlace.row])).2 u v (by simpa using World.var?_cell hgn hv0 0)
    obtain ⟨a0, s0, hl0, _, _, _, rfl⟩ := errorString_of_trod Tryd.underlying38 hrow Tryd.underlying213 Tryd.underlying227 rfl rfl Tryd.underlying9 (by kernel_rfl) (by kernel_rfl) hd0 ok0
    subst hl0
    obtain ⟨bs, hlen, hsub, hat⟩ := ih q0 hq (fun b off hm => hok b off (List.mem_append_right _ hm)) (fun y hy => hg y (by simp [hy]))
    refine ⟨a0 :: bs, by simp [hlen], ?_, ?_⟩
    · have h1 : MemPlace.row a0 1 = [MemPlace.cell a0.block a0.off] := by simp [MemPlace.row]
      rw [h1, List.append_assoc]
      exact List.Sublist.trans (by simpa using hsub) (List.sublist_append_right _ _)
    · intro i y g' hi hg'
      cases i with
      | zero =>
        simp at hi
        subst hi
        obtain rfl := Option.some.inj (hgn.symm.trans hg')
        exact ⟨a0, rfl, by simpa using World.var?_cell hgn hv0 0, (hok a0.block a0.off (by simp [MemPlace.row])).1⟩
      | succ i => exact hat i y g' (by simpa using hi) hg'

/-- the listed errors: each at its variable, no two the same -/
theorem of_laid {W : World} (l : List (String × List UInt8)) (laid : List (String × DataW Unit)) (hl : laid = l.map fun x => (x.1, datum x.2)) (hp : (laid.all fun x => x.2.handleName?.isNone) = true) (h : laidMetH Tryd.prog laid W)
    (hg : ∀ x ∈ l, ∃ g, Tryd.prog.globalNamed x.1 = some g ∧ (Tryd.prog.globals[g]?).map (·.type) = some 38) :
    ∃ bs : List Addr, bs.length = l.length ∧ bs.Nodup ∧ ∀ (i : Nat) (x : String × List UInt8) (g : Nat), l[i]? = some x → Tryd.prog.globalNamed x.1 = some g → ∃ a, bs[i]? = some a ∧ At W g a := by
  rw [MakeChecks.laidMetH_plain _ _ _ hp] at h
  subst hl
  obtain ⟨ps, hv, hnd, hrows⟩ := h
  obtain ⟨bs, h1, h2, h3⟩ := of_vars l ps hv hrows hg
  refine ⟨bs, h1, ?_, h3⟩
  have hn := hnd.sublist h2
  exact (List.pairwise_map.1 hn).imp fun h e => h (by rw [e])

/-- each of the variables gl holds an error of its own -/
def All (w : World) (gl : List Nat) : Prop := ∃ bs : List Addr, bs.length = gl.length ∧ bs.Nodup ∧ ∀ (i g : Nat), gl[i]? = some g → ∃ a, bs[i]? = some a ∧ At w g a
theorem all_of_laid {W : World} (l : List (String × List UInt8)) (gl : List Nat) (laid : List (String × DataW Unit)) (hl : laid = l.map fun x => (x.1, datum x.2)) (hp : (laid.all fun x => x.2.handleName?.isNone) = true) (h : laidMetH Tryd.prog laid W)
    (hg : ∀ x ∈ l, ∃ g, Tryd.prog.globalNamed x.1 = some g ∧ (Tryd.prog.globals[g]?).map (·.type) = some 38)
    (hgl : (l.map fun x => Tryd.prog.globalNamed x.1) = gl.map some) : All W gl := by
  obtain ⟨bs, h1, h2, h3⟩ := of_laid l laid hl hp h hg
  have hlen := congrArg List.length hgl
  simp only [List.length_map] at hlen
  refine ⟨bs, by omega, h2, fun i g hi => ?_⟩
  have hlt : i < gl.length := (List.getElem?_eq_some_iff.1 hi).1
  have hlt2 : i < l.length := by omega
  have e := congrArg (fun z => z[i]?) hgl
  simp only [List.getElem?_map, hi, Option.map_some] at e
  rw [List.getElem?_eq_getElem hlt2] at e
  simp only [Option.map_some, Option.some.injEq] at e
  exact h3 i _ g (List.getElem?_eq_getElem hlt2) e
/-- of a list's variables some alone -/
theorem sub_vars {P : Program} {W : World} : ∀ {l l' : List (String × DataW Unit)}, l'.Sublist l → ∀ (ps : List MemPlace), DataW.LaidVars P W l ps → ∃ ps', DataW.LaidVars P W l' ps' ∧ ps'.Sublist ps := by
  intro l l' h
  induction h with
  | slnil => intro ps hv; exact ⟨ps, hv, List.Sublist.refl _⟩
  | cons a _ ih =>
    intro ps hv
    obtain ⟨g0, t0, cs0, f0, p0, q0, hg0, ht0, hv0, hd0, hq, rfl⟩ := hv
    obtain ⟨ps', h1, h2⟩ := ih q0 hq
    exact ⟨ps', h1, h2.trans (List.sublist_append_right _ _)⟩
  | cons_cons a _ ih =>
    intro ps hv
    obtain ⟨g0, t0, cs0, f0, p0, q0, hg0, ht0, hv0, hd0, hq, rfl⟩ := hv
    obtain ⟨ps', h1, h2⟩ := ih q0 hq
    exact ⟨_, ⟨g0, t0, cs0, f0, p0, ps', hg0, ht0, hv0, hd0, h1, rfl⟩, List.Sublist.append (List.Sublist.refl _) h2⟩
/-- the listed errors, where other variables are listed beside them -/
theorem all_of_sub {W : World} (l : List (String × List UInt8)) (gl : List Nat) (laid : List (String × DataW Unit)) (hl : (l.map fun x => (x.1, datum x.2)).Sublist laid) (hp : (laid.all fun x => x.2.handleName?.isNone) = true) (h : laidMetH Tryd.prog laid W)
    (hg : ∀ x ∈ l, ∃ g, Tryd.prog.globalNamed x.1 = some g ∧ (Tryd.prog.globals[g]?).map (·.type) = some 38)
    (hgl : (l.map fun x => Tryd.prog.globalNamed x.1) = gl.map some) : All W gl := by
  rw [MakeChecks.laidMetH_plain _ _ _ hp] at h
  obtain ⟨ps, hv, hnd, hrows⟩ := h
  obtain ⟨ps', hv', hsub⟩ := sub_vars hl ps hv
  obtain ⟨bs, h1, h2, h3⟩ := of_vars l ps' hv' (fun b off hm => hrows b off (hsub.subset hm)) hg
  have hn := (hnd.sublist hsub).sublist h2
  have hlen := congrArg List.length hgl
  simp only [List.length_map] at hlen
  refine ⟨bs, by omega, (List.pairwise_map.1 hn).imp fun h e => h (by rw [e]), fun i g hi => ?_⟩
  have hlt : i < gl.length := (List.getElem?_eq_some_iff.1 hi).1
  have hlt2 : i < l.length := by omega
  have e := congrArg (fun z => z[i]?) hgl
  simp only [List.getElem?_map, hi, Option.map_some] at e
  rw [List.getElem?_eq_getElem hlt2] at e
  simp only [Option.map_some, Option.some.injEq] at e
  exact h3 i _ g (List.getElem?_eq_getElem hlt2) e
theorem All.at {w : World} {gl : List Nat} (h : All w gl) (i g : Nat) (hi : gl[i]? = some g) : ∃ a, At w g a := by
  obtain ⟨bs, _, _, h3⟩ := h
  obtain ⟨a, _, ha⟩ := h3 i g hi
  exact ⟨a, ha⟩
theorem All.below {w w' : World} {gl : List Nat} (h : All w gl) (hb : Below w.heap.size w w') : All w' gl := by
  obtain ⟨bs, h1, h2, h3⟩ := h
  exact ⟨bs, h1, h2, fun i g hi => let ⟨a, ha, hA⟩ := h3 i g hi; ⟨a, ha, hA.below hb⟩⟩
end Go.Proofs.YtagbnacffiagcaaDoor.Err
