/- The walks of package breviarysee: an error as plain data. -/
import Derived.Test.YtagbnacffiagcaaDoorErr
import Derived.Test.YtagbnacffiagcaaDoorMem
import Derived.LaidEql
import Derived.LaidEqlPtr
import Derived.Deep.DeepMust
namespace Go.Proofs.YtagbnacffiagcaaDoor.SeeW
open Go Go.RowKit Go.Proofs.YtagbnacffiagcaaDoor.Mem
set_option linter.unusedVariables false
set_option maxRecDepth 100000

/-- the variables of api's errors, in the order of the list -/
abbrev gl : List Nat := [9, 7, 0, 10, 6, 1, 2, 11, 3, 12, 13, 14, 15, 5, 4, 16, 17, 18, 19, 20, 21, 22, 23, 24]
/-- the errors stand at bs -/
def Bs (w : World) (bs : List Addr) : Prop := bs.length = 24 ∧ bs.Nodup ∧ ∀ (i g : Nat), gl[i]? = some g → ∃ a, bs[i]? = some a ∧ Err.At w g a
theorem Bs.below {w w' : World} {bs : List Addr} (h : Bs w bs) (hb : Below w.heap.size w w') : Bs w' bs := by
  obtain ⟨h1, h2, h3⟩ := h
  exact ⟨h1, h2, fun i g hi => let ⟨a, ha, hA⟩ := h3 i g hi; ⟨a, ha, hA.below hb⟩⟩
theorem bs_of {w : World} (h : Err.All w gl) : ∃ bs, Bs w bs := h
/-- an error as a value -/
abbrev ev (a : Addr) : Value := .iface Err.tp (.pointer (some a))
/-- a fault as a value -/
abbrev Ft (c : Int) (p : Bool) (q : Int) : Value := .agg #[.int .i64 c, .bool p, .int .i64 q]

theorem bare_w (c : Int) (w : World) : Calls Tryd.prog 84 #[.int .i64 c] w fun e w' => e = .returned (Ft c false 0) ∧ Below w.heap.size w w' := by
  go_enter Tryd.func84, Tryd.ntmps84
  go_wp2
  exact bodyPost_ret (v := Ft c false 0) (by simp [results, Tryd.results84, go_sem]) rfl ⟨rfl, (Below.refl _ _).alloc (Nat.le_refl _) _⟩
theorem none_w (w : World) : Calls Tryd.prog 122 #[] w fun e w' => e = .returned (Ft 0 false 0) ∧ Below w.heap.size w w' := by
  go_enter Tryd.func122, Tryd.ntmps122
  go_wp2
  exact bodyPost_ret (v := Ft 0 false 0) (by simp [results, Tryd.results122, go_sem]) rfl ⟨rfl, (Below.refl _ _).alloc (Nat.le_refl _) _⟩

theorem samefault_w (c c' : Int) (p p' : Bool) (q q' : Int) (w : World) :
    Calls Tryd.prog 110 #[Ft c p q, Ft c' p' q'] w fun e w' => e = .returned (.bool (c == c' && p == p' && q == q')) ∧ Below w.heap.size w w' := by
  by_cases h1 : (c == c') = true
  · by_cases h2 : (p == p') = true
    · rw [h1, h2]
      go_enter Tryd.func110, Tryd.ntmps110
      go_wp2
      go_ret
      exact ⟨ret_bool (by simp), ((Below.refl _ _).alloc (Nat.le_refl _) _).alloc (by simp) _⟩
    · have h2 : (p == p') = false := by simpa using h2
      rw [h1, h2]
      go_enter Tryd.func110, Tryd.ntmps110
      go_wp2
      go_ret
      exact ⟨ret_bool (by simp), ((Below.refl _ _).alloc (Nat.le_refl _) _).alloc (by simp) _⟩
  · have h1 : (c == c') = false := by simpa using h1
    rw [h1]
    go_enter Tryd.func110, Tryd.ntmps110
    go_wp2
    go_ret
    exact ⟨ret_bool (by simp), ((Below.refl _ _).alloc (Nat.le_refl _) _).alloc (by simp) _⟩

theorem alike_same (a : Addr) (w : World) : Calls Tryd.prog 134 #[ev a, ev a] w fun e w' => e = .returned (.bool true) ∧ w = w' := by
  obtain ⟨i, hi, hi2⟩ : ∃ i, Tryd.prog.info? Err.tp = some i ∧ i.comparable = true := ⟨_, rfl, by kernel_rfl⟩
  obtain ⟨j, hj⟩ : ∃ j, Tryd.prog.info? 227 = some j := ⟨_, rfl⟩
  have he := fun w => run_eql_iface_ptr_same (P := Tryd.prog) (w := w) a Tryd.underlying38 Tryd.underlying213 hi hi2 hj
  go_enter Tryd.func134, Tryd.ntmps134
  go_wp2
  go_ret
  exact ⟨rfl, rfl⟩
theorem alike_other (a b : Addr) (w : World) (hne : a ≠ b) {ca cb : Array Value} {ta tb : TypeId} (ha : w.heap[a.block]? = some (.cells ca ta (0, 0))) (hb : w.heap[b.block]? = some (.cells cb tb (0, 0))) :
    Calls Tryd.prog 134 #[ev a, ev b] w fun e w' => e = .returned (.bool false) ∧ w = w' := by
  obtain ⟨i, hi, hi2⟩ : ∃ i, Tryd.prog.info? Err.tp = some i ∧ i.comparable = true := ⟨_, rfl, by kernel_rfl⟩
  obtain ⟨j, hj, hj2⟩ : ∃ j, Tryd.prog.info? 227 = some j ∧ j.size ≠ 0 := ⟨_, rfl, by decide⟩
  have he := run_eql_iface_ptr_other (P := Tryd.prog) (w := w) Tryd.underlying38 Tryd.underlying213 hi hi2 hj hj2 hne ha hb
  clear hne ha hb
  go_enter Tryd.func134, Tryd.ntmps134
  go_wp2
  go_ret
  exact ⟨rfl, rfl⟩

set_option maxHeartbeats 800000 in
theorem sentinels_w (bs : List Addr) (w : World) (h : Bs w bs) :
    Calls Tryd.prog 133 #[] w fun e w' => ∃ g, e = .returned (.slice (some ⟨g, 0, none⟩) 24 24) ∧ (∀ (j : Nat) (a : Addr), bs[j]? = some a → w'.cell? ⟨g, j, none⟩ = some (ev a)) ∧ Below w.heap.size w w' := by
  obtain ⟨h1, h2, h3⟩ := h
  obtain ⟨b0, e0, q0, _⟩ := h3 0 _ rfl
  obtain ⟨b1, e1, q1, _⟩ := h3 1 _ rfl
  obtain ⟨b2, e2, q2, _⟩ := h3 2 _ rfl
  obtain ⟨b3, e3, q3, _⟩ := h3 3 _ rfl
  obtain ⟨b4, e4, q4, _⟩ := h3 4 _ rfl
  obtain ⟨b5, e5, q5, _⟩ := h3 5 _ rfl
  obtain ⟨b6, e6, q6, _⟩ := h3 6 _ rfl
  obtain ⟨b7, e7, q7, _⟩ := h3 7 _ rfl
  obtain ⟨b8, e8, q8, _⟩ := h3 8 _ rfl
  obtain ⟨b9, e9, q9, _⟩ := h3 9 _ rfl
  obtain ⟨b10, e10, q10, _⟩ := h3 10 _ rfl
  obtain ⟨b11, e11, q11, _⟩ := h3 11 _ rfl
  obtain ⟨b12, e12, q12, _⟩ := h3 12 _ rfl
  obtain ⟨b13, e13, q13, _⟩ := h3 13 _ rfl
  obtain ⟨b14, e14, q14, _⟩ := h3 14 _ rfl
  obtain ⟨b15, e15, q15, _⟩ := h3 15 _ rfl
  obtain ⟨b16, e16, q16, _⟩ := h3 16 _ rfl
  obtain ⟨b17, e17, q17, _⟩ := h3 17 _ rfl
  obtain ⟨b18, e18, q18, _⟩ := h3 18 _ rfl
  obtain ⟨b19, e19, q19, _⟩ := h3 19 _ rfl
  obtain ⟨b20, e20, q20, _⟩ := h3 20 _ rfl
  obtain ⟨b21, e21, q21, _⟩ := h3 21 _ rfl
  obtain ⟨b22, e22, q22, _⟩ := h3 22 _ rfl
  obtain ⟨b23, e23, q23, _⟩ := h3 23 _ rfl
  have hbs : bs = [b0, b1, b2, b3, b4, b5, b6, b7, b8, b9, b10, b11, b12, b13, b14, b15, b16, b17, b18, b19, b20, b21, b22, b23] := by
    apply List.ext_getElem?
    intro j
    rcases Nat.lt_or_ge j 24 with hj | hj
    · have hm : j ∈ List.range 24 := List.mem_range.2 hj
      simp only [show List.range 24 = [0, 1, 2, 3, 4, 5, 6, 7, 8, 9, 10, 11, 12, 13, 14, 15, 16, 17, 18, 19, 20, 21, 22, 23] from rfl, List.mem_cons, List.not_mem_nil, or_false] at hm
      rcases hm with rfl | rfl | rfl | rfl | rfl | rfl | rfl | rfl | rfl | rfl | rfl | rfl | rfl | rfl | rfl | rfl | rfl | rfl | rfl | rfl | rfl | rfl | rfl | rfl <;> first | exact e0 | exact e1 | exact e2 | exact e3 | exact e4 | exact e5 | exact e6 | exact e7 | exact e8 | exact e9 | exact e10 | exact e11 | exact e12 | exact e13 | exact e14 | exact e15 | exact e16 | exact e17 | exact e18 | exact e19 | exact e20 | exact e21 | exact e22 | exact e23
    · rw [List.getElem?_eq_none (by omega), List.getElem?_eq_none (by simpa using hj)]
  clear h1 h2 h3 e0 e1 e2 e3 e4 e5 e6 e7 e8 e9 e10 e11 e12 e13 e14 e15 e16 e17 e18 e19 e20 e21 e22 e23
  subst hbs
  go_enter Tryd.func133, Tryd.ntmps133
  go_wp2
  go_ret
  refine ⟨_, rfl, fun j a hj => ?_, (Below.refl _ _).alloc (Nat.le_refl _) _⟩
  rw [World.cell?_alloc_mark]
  have hk : ([b0, b1, b2, b3, b4, b5, b6, b7, b8, b9, b10, b11, b12, b13, b14, b15, b16, b17, b18, b19, b20, b21, b22, b23].map ev)[j]? = some (ev a) := by rw [List.getElem?_map, hj]; rfl
  simpa using hk

/-- the number of an error of the list -/
theorem sentinel_w (bs : List Addr) (w : World) (h : Bs w bs) (i : Nat) (a : Addr) (hi : bs[i]? = some a) :
    Calls Tryd.prog 123 #[ev a] w fun e w' => e = .returned (.int .i64 (101 + i)) ∧ Below w.heap.size w w' := by
  have hlen := h.1
  have hnd := h.2.1
  have hi24 : i < 24 := by have := (List.getElem?_eq_some_iff.1 hi).1; omega
  have HA : ∀ (k : Nat) (b : Addr) (w : World), Bs w bs → bs[k]? = some b → ∃ c t, w.heap[b.block]? = some (.cells c t (0, 0)) := by
    intro k b w h hb
    have hk : k < 24 := by have := (List.getElem?_eq_some_iff.1 hb).1; omega
    obtain ⟨g, hg⟩ : ∃ g, gl[k]? = some g := ⟨_, List.getElem?_eq_getElem (by simpa using hk)⟩
    obtain ⟨b', h1, h2⟩ := h.2.2 k g hg
    obtain rfl := Option.some.inj (hb.symm.trans h1)
    exact h2.2
  go_enter Tryd.func123, Tryd.ntmps123
  go_wp2_with fail
  refine (sentinels_w bs _ h).mono ?_
  rintro e w1 ⟨g, rfl, hc, hb1⟩
  have z1 := hb1.size
  have H1 := hid (h.below hb1)
  clear h
  go_wp2_with fail
  go_loopw [4] (fun x wr => ∃ k : Nat, k ≤ i ∧ x = .int .i64 k ∧ wr = w1) (fun x _ => 24 - (intOf x).toNat)
  case atStart => exact ⟨0, by omega, rfl, rfl⟩
  case round =>
    obtain ⟨k, hk, rfl, rfl⟩ := hrel
    have hk24 : k < 24 := by omega
    obtain ⟨b, hb⟩ : ∃ b, bs[k]? = some b := ⟨_, List.getElem?_eq_getElem (by omega)⟩
    have hcb := hc k b hb
    have HB := hid hb
    have HI := hid hi
    have HC := hid hc
    have HN := hid hnd
    have HL := hid hlen
    have HAA := hid HA
    clear hb hi hc hnd hlen HA
    go_wp2_with fail
    rcases Nat.lt_or_ge k i with hlt | hge
    · have hne : a ≠ b := by
        intro he
        subst he
        have h1 := List.getElem?_eq_some_iff.1 HI.out
        have h2 := List.getElem?_eq_some_iff.1 HB.out
        have := (List.getElem_inj HN.out).1 (h1.2.trans h2.2.symm)
        omega
      obtain ⟨ca, ta, ha⟩ := HAA.out i a _ H1.out HI.out
      obtain ⟨cb, tb, hb⟩ := HAA.out k b _ H1.out HB.out
      refine (alike_other a b _ hne ha hb).mono ?_
      rintro e w' ⟨rfl, rfl⟩
      clear ha hb hne
      go_wp2_with fail
      go_roundw
      case rel => exact ⟨k + 1, by omega, by simp⟩
      case measure => simp [intOf]; omega
    · obtain rfl : k = i := by omega
      obtain rfl := Option.some.inj (HB.out.symm.trans HI.out)
      refine (alike_same _ _).mono ?_
      rintro e w' ⟨rfl, rfl⟩
      go_wp2_with fail
      go_ret
      exact ⟨rfl, hb1⟩

/-- an error of the list is no error with a place -/
@[go_sem] theorem noplace (a : Addr) (W : World) : (Instr.typeAssert (ev a) 38 165 true).run Tryd.prog W = .ok (.tuple #[.pointer none, .bool false]) W := by kernel_rfl
/-- what a block of three cells gives a store -/
theorem three {w : World} {b : Nat} {x y z : Value} {t : TypeId} (h : w.heap[b]? = some (.cells #[x, y, z] t (0, 0))) :
    w.cell? ⟨b, 0, none⟩ = some x ∧ w.cell? ⟨b, 1, none⟩ = some y ∧ w.cell? ⟨b, 2, none⟩ = some z ∧ w.frozen? ⟨b, 0, none⟩ = false ∧ w.frozen? ⟨b, 1, none⟩ = false ∧ w.frozen? ⟨b, 2, none⟩ = false := by
  simp [World.cell?, World.frozen?, h]
theorem three_new {w w' : World} {x y z : Value} {t : TypeId} (hb : Below (w.alloc (.cells #[x, y, z] t)).heap.size (w.alloc (.cells #[x, y, z] t)) w') : w'.heap[w.heap.size]? = some (.cells #[x, y, z] t (0, 0)) := by
  rw [hb.block _ (by simp)]; exact heap_alloc_new _ _

theorem fault_nil (w : World) :
    Calls Tryd.prog 111 #[.nilIface] w fun e w' => e = .returned (Ft 0 false 0) ∧ Below w.heap.size w w' := by
  go_enter Tryd.func111, Tryd.ntmps111
  go_wp2_with fail
  refine (none_w _).mono ?_
  rintro e w1 ⟨rfl, hb1⟩
  obtain ⟨c0, c1, c2, f0, f1, f2⟩ := three (three_new hb1)
  have hs := hb1.size
  have HB := hid (below_put (Below.refl w.heap.size w) (Nat.le_refl _) _ hb1)
  clear hb1
  go_wp2_with fail
  refine bodyPost_ret (v := Ft 0 false 0) (by simp [results, Tryd.results111, go_sem, c0, c1, c2]) rfl ⟨rfl, ?_⟩
  exact ((HB.out.setCell (Nat.le_refl _) _).setCell (Nat.le_refl _) _).setCell (Nat.le_refl _) _
/-- an error of the list, as plain data -/
theorem fault_w (bs : List Addr) (w : World) (h : Bs w bs) (i : Nat) (a : Addr) (hi : bs[i]? = some a) :
    Calls Tryd.prog 111 #[ev a] w fun e w' => e = .returned (Ft (101 + i) false 0) ∧ Below w.heap.size w w' := by
  go_enter Tryd.func111, Tryd.ntmps111
  go_wp2_with fail
  refine (sentinel_w bs _ (h.below ((Below.refl _ _).alloc (Nat.le_refl _) _)) i a hi).mono ?_
  rintro e w1 ⟨rfl, hb1⟩
  have z1 := hb1.size
  have hz : w.heap.size < w1.heap.size := by simp at z1; omega
  have h1 := three_new hb1
  have hb1 := below_put (Below.refl w.heap.size w) (Nat.le_refl _) _ hb1
  go_wp2_with fail
  refine (bare_w _ _).mono ?_
  rintro e w2 ⟨rfl, hb2⟩
  have h2 : w2.heap[w.heap.size]? = _ := (hb2.block _ hz).trans h1
  obtain ⟨c0, c1, c2, f0, f1, f2⟩ := three h2
  have HB := hid (hb1.trans (hb2.mono (by omega)))
  clear hb1 hb2 h1 h2 z1 hz
  go_wp2_with fail
  refine bodyPost_ret (v := Ft (101 + i) false 0) (by simp [results, Tryd.results111, go_sem, c0, c1, c2]) rfl ⟨rfl, ?_⟩
  exact ((HB.out.setCell (Nat.le_refl _) _).setCell (Nat.le_refl _) _).setCell (Nat.le_refl _) _

/-- is an error of the list the one of this number? -/
theorem same_w (v : Value) (m : Int) (c : Int) (w : World) (hf : ∀ w1, Below w.heap.size w w1 → Calls Tryd.prog 111 #[v] w1 fun e w' => e = .returned (Ft m false 0) ∧ Below w1.heap.size w1 w') :
    Calls Tryd.prog 83 #[v, Ft c false 0] w fun e w' => e = .returned (.bool (m == c)) ∧ Below w.heap.size w w' := by
  go_enter Tryd.func83, Tryd.ntmps83
  go_wp2_with fail
  have hz : ∀ (o : Obj), (w.alloc o).drew.heap.size = (w.alloc o).heap.size := fun _ => rfl
  go_region_with (first
    | (go_at_call 111; refine (hf _ (((Below.refl _ _).alloc (Nat.le_refl _) _).drew)).mono ?_; rintro e w1 ⟨rfl, hb1⟩; have hb1 := ((Below.refl _ _).drew).trans hb1; obtain ⟨c0, c1, c2, f0, f1, f2⟩ := three (three_new hb1))
    | (go_at_call 110; refine (samefault_w m c false false 0 0 _).mono ?_; rintro e w2 ⟨rfl, hb2⟩))
  all_goals
    have hz1 := hb1.size
    have hb := (below_put (Below.refl w.heap.size w) (Nat.le_refl _) _ hb1).trans (hb2.mono (by simp at hz1; omega))
    clear hb1 hb2 hf hz
    go_wp2_with fail
    go_ret
    exact ⟨rfl, hb⟩
theorem is_w (bs : List Addr) (w : World) (h : Bs w bs) (i : Nat) (a : Addr) (hi : bs[i]? = some a) (c : Int) :
    Calls Tryd.prog 21 #[ev a, .int .i64 c] w fun e w' => e = .returned (.bool (101 + (i : Int) == c)) ∧ Below w.heap.size w w' := by
  go_enter Tryd.func21, Tryd.ntmps21
  go_wp2_with fail
  refine (bare_w _ _).mono ?_
  rintro e w1 ⟨rfl, hb1⟩
  go_wp2_with fail
  refine (same_w _ (101 + i) c _ fun w2 hb2 => fault_w bs _ ((h.below hb1).below hb2) i a hi).mono ?_
  rintro e w2 ⟨rfl, hb2⟩
  have hb := hb1.trans (hb2.mono hb1.size)
  go_wp2_with fail
  go_ret
  exact ⟨rfl, hb⟩
theorem is_nil (w : World) (c : Int) :
    Calls Tryd.prog 21 #[.nilIface, .int .i64 c] w fun e w' => e = .returned (.bool (0 == c)) ∧ Below w.heap.size w w' := by
  go_enter Tryd.func21, Tryd.ntmps21
  go_wp2_with fail
  refine (bare_w _ _).mono ?_
  rintro e w1 ⟨rfl, hb1⟩
  go_wp2_with fail
  refine (same_w _ 0 c _ fun w2 hb2 => fault_nil _).mono ?_
  rintro e w2 ⟨rfl, hb2⟩
  have hb := hb1.trans (hb2.mono hb1.size)
  go_wp2_with fail
  go_ret
  exact ⟨rfl, hb⟩
end Go.Proofs.YtagbnacffiagcaaDoor.SeeW
