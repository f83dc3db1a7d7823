/- The walks of package breviarysee: an error as plain data; A device in memory (package dev), whatever it is: armed, down; The walks of package dev that only ask; The walks of package dev that write. -/
import Derived.Test.YtbjfgdahfpfgdaaGreatDoorKeepFaultsP1
import Derived.LaidEql
import Derived.LaidEqlPtr
import Derived.Deep.DeepMust
import Derived.BigQuiet
import Derived.Deep.RegionHeld3
namespace Go.Proofs.YtbjfgdahfpfgdaaGreatDoor.SeeW
open Go Go.RowKit Go.Proofs.YtbjfgdahfpfgdaaGreatDoor.Mem
set_option linter.unusedVariables false
set_option maxRecDepth 100000

/-- the variables of api's errors, in the order of the list -/
abbrev gl : List Nat := [7, 1, 0, 6, 2, 5, 4, 8, 3, 9, 10, 11, 12, 13, 14, 15, 16, 17, 18, 19, 20, 21, 22, 23]
/-- the errors stand at bs -/
def Bs (w : World) (bs : List Addr) : Prop := bs.length = 24 ∧ bs.Nodup ∧ ∀ (i g : Nat), gl[i]? = some g → ∃ a, bs[i]? = some a ∧ Err.At w g a
theorem Bs.below {w w' : World} {bs : List Addr} (h : Bs w bs) (hb : Below w.heap.size w w') : Bs w' bs := by
  obtain ⟨h1, h2, h3⟩ := h
  exact ⟨h1, h2, fun i g hi => let ⟨a, ha, hA⟩ := h3 i g hi; ⟨a, ha, hA.below hb⟩⟩
/-- an error as a value -/
abbrev ev (a : Addr) : Value := .iface Err.tp (.pointer (some a))
/-- a fault as a value -/
abbrev Ft (c : Int) (p : Bool) (q : Int) : Value := .agg #[.int .i64 c, .bool p, .int .i64 q]

theorem bare_w (c : Int) (w : World) : Calls Tryz.prog 52 #[.int .i64 c] w fun e w' => e = .returned (Ft c false 0) ∧ Below w.heap.size w w' := by
  go_enter Tryz.func52, Tryz.ntmps52
  go_wp2
  exact bodyPost_ret (v := Ft c false 0) (by simp [results, Tryz.results52, go_sem]) rfl ⟨rfl, (Below.refl _ _).alloc (Nat.le_refl _) _⟩
theorem samefault_w (c c' : Int) (p p' : Bool) (q q' : Int) (w : World) :
    Calls Tryz.prog 93 #[Ft c p q, Ft c' p' q'] w fun e w' => e = .returned (.bool (c == c' && p == p' && q == q')) ∧ Below w.heap.size w w' := by
  by_cases h1 : (c == c') = true
  · by_cases h2 : (p == p') = true
    · rw [h1, h2]
      go_enter Tryz.func93, Tryz.ntmps93
      go_wp2
      go_ret
      exact ⟨ret_bool (by simp), ((Below.refl _ _).alloc (Nat.le_refl _) _).alloc (by simp) _⟩
    · have h2 : (p == p') = false := by simpa using h2
      rw [h1, h2]
      go_enter Tryz.func93, Tryz.ntmps93
      go_wp2
      go_ret
      exact ⟨ret_bool (by simp), ((Below.refl _ _).alloc (Nat.le_refl _) _).alloc (by simp) _⟩
  · have h1 : (c == c') = false := by simpa using h1
    rw [h1]
    go_enter Tryz.func93, Tryz.ntmps93
    go_wp2
    go_ret
    exact ⟨ret_bool (by simp), ((Below.refl _ _).alloc (Nat.le_refl _) _).alloc (by simp) _⟩

theorem alike_same (a : Addr) (w : World) : Calls Tryz.prog 153 #[ev a, ev a] w fun e w' => e = .returned (.bool true) ∧ w = w' := by
  obtain ⟨i, hi, hi2⟩ : ∃ i, Tryz.prog.info? Err.tp = some i ∧ i.comparable = true := ⟨_, rfl, by kernel_rfl⟩
  obtain ⟨j, hj⟩ : ∃ j, Tryz.prog.info? 263 = some j := ⟨_, rfl⟩
  have he := fun w => run_eql_iface_ptr_same (P := Tryz.prog) (w := w) a Tryz.underlying33 Tryz.underlying247 hi hi2 hj
  go_enter Tryz.func153, Tryz.ntmps153
  go_wp2
  go_ret
  exact ⟨rfl, rfl⟩
theorem alike_other (a b : Addr) (w : World) (hne : a ≠ b) {ca cb : Array Value} {ta tb : TypeId} (ha : w.heap[a.block]? = some (.cells ca ta (0, 0))) (hb : w.heap[b.block]? = some (.cells cb tb (0, 0))) :
    Calls Tryz.prog 153 #[ev a, ev b] w fun e w' => e = .returned (.bool false) ∧ w = w' := by
  obtain ⟨i, hi, hi2⟩ : ∃ i, Tryz.prog.info? Err.tp = some i ∧ i.comparable = true := ⟨_, rfl, by kernel_rfl⟩
  obtain ⟨j, hj, hj2⟩ : ∃ j, Tryz.prog.info? 263 = some j ∧ j.size ≠ 0 := ⟨_, rfl, by decide⟩
  have he := run_eql_iface_ptr_other (P := Tryz.prog) (w := w) Tryz.underlying33 Tryz.underlying247 hi hi2 hj hj2 hne ha hb
  clear hne ha hb
  go_enter Tryz.func153, Tryz.ntmps153
  go_wp2
  go_ret
  exact ⟨rfl, rfl⟩

set_option maxHeartbeats 800000 in
theorem sentinels_w (bs : List Addr) (w : World) (h : Bs w bs) :
    Calls Tryz.prog 152 #[] w fun e w' => ∃ g, e = .returned (.slice (some ⟨g, 0, none⟩) 24 24) ∧ (∀ (j : Nat) (a : Addr), bs[j]? = some a → w'.cell? ⟨g, j, none⟩ = some (ev a)) ∧ Below w.heap.size w w' := by
  obtain ⟨h1, h2, h3⟩ := h
  obtain ⟨b0, e0, q0, _⟩ := h3 0 _ rfl
  obtain ⟨b1, e1, q1, _⟩ := h3 1 _ rfl
  obtain ⟨b2, e2, q2, _⟩ := h3 2 _ rfl
  obtain ⟨b3, e3, q3, _⟩ := h3 3 _ rfl
  obtain ⟨b4, e4, q4, _⟩ := h3 4 _ rfl
  obtain ⟨b5, e5, q5, _⟩ := h3 5 _ rfl
  obtain ⟨b6, e6, q6, _⟩ := h3 6 _ rfl
  obtain ⟨b7, e7, q7, _⟩ := h3 7 _ rfl
  obtain ⟨b8, e8, q8, _⟩ := h3 8 _ rfl
  obtain ⟨b9, e9, q9, _⟩ := h3 9 _ rfl
  obtain ⟨b10, e10, q10, _⟩ := h3 10 _ rfl
  obtain ⟨b11, e11, q11, _⟩ := h3 11 _ rfl
  obtain ⟨b12, e12, q12, _⟩ := h3 12 _ rfl
  obtain ⟨b13, e13, q13, _⟩ := h3 13 _ rfl
  obtain ⟨b14, e14, q14, _⟩ := h3 14 _ rfl
  obtain ⟨b15, e15, q15, _⟩ := h3 15 _ rfl
  obtain ⟨b16, e16, q16, _⟩ := h3 16 _ rfl
  obtain ⟨b17, e17, q17, _⟩ := h3 17 _ rfl
  obtain ⟨b18, e18, q18, _⟩ := h3 18 _ rfl
  obtain ⟨b19, e19, q19, _⟩ := h3 19 _ rfl
  obtain ⟨b20, e20, q20, _⟩ := h3 20 _ rfl
  obtain ⟨b21, e21, q21, _⟩ := h3 21 _ rfl
  obtain ⟨b22, e22, q22, _⟩ := h3 22 _ rfl
  obtain ⟨b23, e23, q23, _⟩ := h3 23 _ rfl
  have hbs : bs = [b0, b1, b2, b3, b4, b5, b6, b7, b8, b9, b10, b11, b12, b13, b14, b15, b16, b17, b18, b19, b20, b21, b22, b23] := by
    apply List.ext_getElem?
    intro j
    rcases Nat.lt_or_ge j 24 with hj | hj
    · have hm : j ∈ List.range 24 := List.mem_range.2 hj
      simp only [show List.range 24 = [0, 1, 2, 3, 4, 5, 6, 7, 8, 9, 10, 11, 12, 13, 14, 15, 16, 17, 18, 19, 20, 21, 22, 23] from rfl, List.mem_cons, List.not_mem_nil, or_false] at hm
      rcases hm with rfl | rfl | rfl | rfl | rfl | rfl | rfl | rfl | rfl | rfl | rfl | rfl | rfl | rfl | rfl | rfl | rfl | rfl | rfl | rfl | rfl | rfl | rfl | rfl <;> first | exact e0 | exact e1 | exact e2 | exact e3 | exact e4 | exact e5 | exact e6 | exact e7 | exact e8 | exact e9 | exact e10 | exact e11 | exact e12 | exact e13 | exact e14 | exact e15 | exact e16 | exact e17 | exact e18 | exact e19 | exact e20 | exact e21 | exact e22 | exact e23
    · rw [List.getElem?_eq_none (by omega), List.getElem?_eq_none (by simpa using hj)]
  clear h1 h2 h3 e0 e1 e2 e3 e4 e5 e6 e7 e8 e9 e10 e11 e12 e13 e14 e15 e16 e17 e18 e19 e20 e21 e22 e23
  subst hbs
  go_enter Tryz.func152, Tryz.ntmps152
  go_wp2
  go_ret
  refine ⟨_, rfl, fun j a hj => ?_, (Below.refl _ _).alloc (Nat.le_refl _) _⟩
  rw [World.cell?_alloc_mark]
  have hk : ([b0, b1, b2, b3, b4, b5, b6, b7, b8, b9, b10, b11, b12, b13, b14, b15, b16, b17, b18, b19, b20, b21, b22, b23].map ev)[j]? = some (ev a) := by rw [List.getElem?_map, hj]; rfl
  simpa using hk

/-- the number of an error of the list -/
theorem sentinel_w (bs : List Addr) (w : World) (h : Bs w bs) (i : Nat) (a : Addr) (hi : bs[i]? = some a) :
    Calls Tryz.prog 127 #[ev a] w fun e w' => e = .returned (.int .i64 (101 + i)) ∧ Below w.heap.size w w' := by
  have hlen := h.1
  have hnd := h.2.1
  have hi24 : i < 24 := by have := (List.getElem?_eq_some_iff.1 hi).1; omega
  have HA : ∀ (k : Nat) (b : Addr) (w : World), Bs w bs → bs[k]? = some b → ∃ c t, w.heap[b.block]? = some (.cells c t (0, 0)) := by
    intro k b w h hb
    have hk : k < 24 := by have := (List.getElem?_eq_some_iff.1 hb).1; omega
    obtain ⟨g, hg⟩ : ∃ g, gl[k]? = some g := ⟨_, List.getElem?_eq_getElem (by simpa using hk)⟩
    obtain ⟨b', h1, h2⟩ := h.2.2 k g hg
    obtain rfl := Option.some.inj (hb.symm.trans h1)
    exact h2.2
  go_enter Tryz.func127, Tryz.ntmps127
  go_wp2_with fail
  refine (sentinels_w bs _ h).mono ?_
  rintro e w1 ⟨g, rfl, hc, hb1⟩
  have z1 := hb1.size
  have H1 := hid (h.below hb1)
  clear h
  go_wp2_with fail
  go_loopw [4] (fun x wr => ∃ k : Nat, k ≤ i ∧ x = .int .i64 k ∧ wr = w1) (fun x _ => 24 - (RowKit.intOf x).toNat)
  case atStart => exact ⟨0, by omega, rfl, rfl⟩
  case round =>
    obtain ⟨k, hk, rfl, rfl⟩ := hrel
    have hk24 : k < 24 := by omega
    obtain ⟨b, hb⟩ : ∃ b, bs[k]? = some b := ⟨_, List.getElem?_eq_getElem (by omega)⟩
    have hcb := hc k b hb
    have HB := hid hb
    have HI := hid hi
    have HC := hid hc
    have HN := hid hnd
    have HL := hid hlen
    have HAA := hid HA
    clear hb hi hc hnd hlen HA
    go_wp2_with fail
    rcases Nat.lt_or_ge k i with hlt | hge
    · have hne : a ≠ b := by
        intro he
        subst he
        have h1 := List.getElem?_eq_some_iff.1 HI.out
        have h2 := List.getElem?_eq_some_iff.1 HB.out
        have := (List.getElem_inj HN.out).1 (h1.2.trans h2.2.symm)
        omega
      obtain ⟨ca, ta, ha⟩ := HAA.out i a _ H1.out HI.out
      obtain ⟨cb, tb, hb⟩ := HAA.out k b _ H1.out HB.out
      refine (alike_other a b _ hne ha hb).mono ?_
      rintro e w' ⟨rfl, rfl⟩
      clear ha hb hne
      go_wp2_with fail
      go_roundw
      case rel => exact ⟨k + 1, by omega, by simp⟩
      case measure => simp [RowKit.intOf]; omega
    · obtain rfl : k = i := by omega
      obtain rfl := Option.some.inj (HB.out.symm.trans HI.out)
      refine (alike_same _ _).mono ?_
      rintro e w' ⟨rfl, rfl⟩
      go_wp2_with fail
      go_ret
      exact ⟨rfl, hb1⟩

/-- an error of the list is no error with a place -/
@[go_sem] theorem noplace (a : Addr) (W : World) : (Instr.typeAssert (ev a) 33 186 true).run Tryz.prog W = .ok (.tuple #[.pointer none, .bool false]) W := by kernel_rfl
/-- what a block of three cells gives a store -/
theorem three {w : World} {b : Nat} {x y z : Value} {t : TypeId} (h : w.heap[b]? = some (.cells #[x, y, z] t (0, 0))) :
    w.cell? ⟨b, 0, none⟩ = some x ∧ w.cell? ⟨b, 1, none⟩ = some y ∧ w.cell? ⟨b, 2, none⟩ = some z ∧ w.frozen? ⟨b, 0, none⟩ = false ∧ w.frozen? ⟨b, 1, none⟩ = false ∧ w.frozen? ⟨b, 2, none⟩ = false := by
  simp [World.cell?, World.frozen?, h]
theorem three_new {w w' : World} {x y z : Value} {t : TypeId} (hb : Below (w.alloc (.cells #[x, y, z] t)).heap.size (w.alloc (.cells #[x, y, z] t)) w') : w'.heap[w.heap.size]? = some (.cells #[x, y, z] t (0, 0)) := by
  rw [hb.block _ (by simp)]; exact heap_alloc_new _ _

/-- an error of the list, as plain data -/
theorem fault_w (bs : List Addr) (w : World) (h : Bs w bs) (i : Nat) (a : Addr) (hi : bs[i]? = some a) :
    Calls Tryz.prog 94 #[ev a] w fun e w' => e = .returned (Ft (101 + i) false 0) ∧ Below w.heap.size w w' := by
  go_enter Tryz.func94, Tryz.ntmps94
  go_wp2_with fail
  refine (sentinel_w bs _ (h.below ((Below.refl _ _).alloc (Nat.le_refl _) _)) i a hi).mono ?_
  rintro e w1 ⟨rfl, hb1⟩
  have z1 := hb1.size
  have hz : w.heap.size < w1.heap.size := by simp at z1; omega
  have h1 := three_new hb1
  have hb1 := below_put (Below.refl w.heap.size w) (Nat.le_refl _) _ hb1
  go_wp2_with fail
  refine (bare_w _ _).mono ?_
  rintro e w2 ⟨rfl, hb2⟩
  have h2 : w2.heap[w.heap.size]? = _ := (hb2.block _ hz).trans h1
  obtain ⟨c0, c1, c2, f0, f1, f2⟩ := three h2
  have HB := hid (hb1.trans (hb2.mono (by omega)))
  clear hb1 hb2 h1 h2 z1 hz
  go_wp2_with fail
  refine bodyPost_ret (v := Ft (101 + i) false 0) (by simp [results, Tryz.results94, go_sem, c0, c1, c2]) rfl ⟨rfl, ?_⟩
  exact ((HB.out.setCell (Nat.le_refl _) _).setCell (Nat.le_refl _) _).setCell (Nat.le_refl _) _

/-- is an error of the list the one of this number? -/
theorem same_w (v : Value) (m : Int) (c : Int) (w : World) (hf : ∀ w1, Below w.heap.size w w1 → Calls Tryz.prog 94 #[v] w1 fun e w' => e = .returned (Ft m false 0) ∧ Below w1.heap.size w1 w') :
    Calls Tryz.prog 51 #[v, Ft c false 0] w fun e w' => e = .returned (.bool (m == c)) ∧ Below w.heap.size w w' := by
  go_enter Tryz.func51, Tryz.ntmps51
  go_wp2_with fail
  have hz : ∀ (o : Obj), (w.alloc o).drew.heap.size = (w.alloc o).heap.size := fun _ => rfl
  go_region_with (first
    | (go_at_call 94; refine (hf _ (((Below.refl _ _).alloc (Nat.le_refl _) _).drew)).mono ?_; rintro e w1 ⟨rfl, hb1⟩; have hb1 := ((Below.refl _ _).drew).trans hb1; obtain ⟨c0, c1, c2, f0, f1, f2⟩ := three (three_new hb1))
    | (go_at_call 93; refine (samefault_w m c false false 0 0 _).mono ?_; rintro e w2 ⟨rfl, hb2⟩))
  all_goals
    have hz1 := hb1.size
    have hb := (below_put (Below.refl w.heap.size w) (Nat.le_refl _) _ hb1).trans (hb2.mono (by simp at hz1; omega))
    clear hb1 hb2 hf hz
    go_wp2_with fail
    go_ret
    exact ⟨rfl, hb⟩
theorem is_w (bs : List Addr) (w : World) (h : Bs w bs) (i : Nat) (a : Addr) (hi : bs[i]? = some a) (c : Int) :
    Calls Tryz.prog 17 #[ev a, .int .i64 c] w fun e w' => e = .returned (.bool (101 + (i : Int) == c)) ∧ Below w.heap.size w w' := by
  go_enter Tryz.func17, Tryz.ntmps17
  go_wp2_with fail
  refine (bare_w _ _).mono ?_
  rintro e w1 ⟨rfl, hb1⟩
  go_wp2_with fail
  refine (same_w _ (101 + i) c _ fun w2 hb2 => fault_w bs _ ((h.below hb1).below hb2) i a hi).mono ?_
  rintro e w2 ⟨rfl, hb2⟩
  have hb := hb1.trans (hb2.mono hb1.size)
  go_wp2_with fail
  go_ret
  exact ⟨rfl, hb⟩
end Go.Proofs.YtbjfgdahfpfgdaaGreatDoor.SeeW

namespace Go.Proofs.YtbjfgdahfpfgdaaGreatDoor.DevG
open Go Go.RowKit Go.Maps Go.Proofs.YtbjfgdahfpfgdaaGreatDoor.Mem Go.Proofs.YtbjfgdahfpfgdaaGreatDoor.MapsW
set_option linter.unusedVariables false
set_option maxRecDepth 100000

/-- what a call says of an error: none, or the k-th of the list -/
def Says (bs : List Addr) (r : Option Nat) (v : Value) : Prop := match r with
  | none => v = .nilIface
  | some k => ∃ a, bs[k]? = some a ∧ v = SeeW.ev a
/-- what is written alone: the blocks S -/
structure Turn (S : List Nat) (w w' : World) : Prop where
  os : w'.os = w.os
  tape : w'.tape = w.tape
  output : w'.output = w.output
  size : w.heap.size ≤ w'.heap.size
  block : ∀ k, k < w.heap.size → k ∉ S → w'.heap[k]? = w.heap[k]?
theorem Turn.refl (S : List Nat) (w : World) : Turn S w w := ⟨rfl, rfl, rfl, Nat.le_refl _, fun _ _ _ => rfl⟩
theorem Turn.trans {S S' : List Nat} {a b c : World} (h : Turn S a b) (k : Turn S' b c) (hS : ∀ x ∈ S', x ∈ S ∨ a.heap.size ≤ x) : Turn S a c :=
  ⟨k.os.trans h.os, k.tape.trans h.tape, k.output.trans h.output, Nat.le_trans h.size k.size, fun i hi hn =>
    (k.block i (Nat.lt_of_lt_of_le hi h.size) (fun hm => (hS i hm).elim hn (by omega))).trans (h.block i hi hn)⟩
theorem Turn.then {S : List Nat} {a b c : World} (h : Turn S a b) (k : Turn S b c) : Turn S a c := h.trans k fun x hx => .inl hx
theorem Turn.mono {S S' : List Nat} {a b : World} (h : Turn S a b) (hS : ∀ x ∈ S, x ∈ S') : Turn S' a b :=
  ⟨h.os, h.tape, h.output, h.size, fun k hk hn => h.block k hk fun hm => hn (hS k hm)⟩
theorem Turn.of_below {S : List Nat} {a b : World} (h : Below a.heap.size a b) : Turn S a b := ⟨h.os, h.tape, h.output, h.size, fun k hk _ => h.block k hk⟩
theorem Turn.of_grown {S : List Nat} {a b : World} {x : Nat} (h : a.grownBy b (some x)) (hx : x ∈ S) : Turn S a b :=
  ⟨h.os, h.tape, h.output, h.size, fun k hk hn => h.block k hk fun e => hn (Option.some.inj e ▸ hx)⟩
theorem Turn.below {S : List Nat} {a b : World} {lo : Nat} (h : Turn S a b) (hlo : lo ≤ a.heap.size) (hS : ∀ x ∈ S, lo ≤ x) : Below lo a b :=
  ⟨h.os, h.tape, h.output, h.size, fun k hk => h.block k (by omega) fun hm => by have := hS k hm; omega⟩
theorem Turn.setCell {S : List Nat} (w : World) (d j : Nat) (v : Value) (hd : d ∈ S) : Turn S w (w.setCell ⟨d, j, none⟩ v) :=
  ⟨rfl, rfl, rfl, by simp, fun k _ hn => heap_setCell_other w ⟨d, j, none⟩ k v fun e => hn (by rw [e]; exact hd)⟩
theorem Turn.cells {S : List Nat} {a b : World} (h : Turn S a b) {k : Nat} {o : Obj} (hk : a.heap[k]? = some o) (hn : k ∉ S) : b.heap[k]? = some o :=
  (h.block k (Array.getElem?_eq_some_iff.1 hk).1 hn).trans hk

/-- the errors I of api stand at bs, below lo, no two the same -/
structure Ev (w : World) (lo : Nat) (bs : List Addr) (I : List Nat) : Prop where
  at_ : ∀ i ∈ I, ∀ g, SeeW.gl[i]? = some g → ∃ a, bs[i]? = some a ∧ Err.At w g a ∧ g < lo ∧ a.block < lo
  inj : ∀ i ∈ I, ∀ j ∈ I, bs[i]? = bs[j]? → i = j
/-- a device's errors -/
abbrev five : List Nat := [1, 2, 4, 5, 6]
theorem Ev.sub {w : World} {lo : Nat} {bs : List Addr} {I I' : List Nat} (h : Ev w lo bs I) (hI : ∀ i ∈ I', i ∈ I) : Ev w lo bs I' :=
  ⟨fun i hi => h.at_ i (hI i hi), fun i hi j hj => h.inj i (hI i hi) j (hI j hj)⟩
theorem Ev.mono {w : World} {lo lo' : Nat} {bs : List Addr} {I : List Nat} (h : Ev w lo bs I) (hl : lo ≤ lo') : Ev w lo' bs I :=
  ⟨fun i hi g hg => let ⟨a, h1, h2, h3, h4⟩ := h.at_ i hi g hg; ⟨a, h1, h2, by omega, by omega⟩, h.inj⟩
theorem Ev.turn {S : List Nat} {w w' : World} {lo : Nat} {bs : List Addr} {I : List Nat} (h : Ev w lo bs I) (ht : Turn S w w') (hS : ∀ x ∈ S, lo ≤ x) : Ev w' lo bs I := by
  refine ⟨fun i hi g hg => ?_, h.inj⟩
  obtain ⟨a, h1, ⟨h2, c, t, h3⟩, h4, h5⟩ := h.at_ i hi g hg
  refine ⟨a, h1, ⟨?_, c, t, ?_⟩, h4, h5⟩
  · have hlt := World.block_lt_of_cell? w ⟨g, 0, none⟩ h2
    rw [World.cell?_of_block (w := w) (ht.block g hlt fun hm => by have := hS g hm; omega)]
    exact h2
  · rw [ht.block _ (Array.getElem?_eq_some_iff.1 h3).1 fun hm => by have := hS _ hm; omega]
    exact h3
theorem Ev.below {w w' : World} {lo : Nat} {bs : List Addr} {I : List Nat} (h : Ev w lo bs I) (hb : Below w.heap.size w w') : Ev w' lo bs I :=
  h.turn (S := []) (Turn.of_below hb) (by simp)
theorem Ev.get {w : World} {lo : Nat} {bs : List Addr} {I : List Nat} (h : Ev w lo bs I) (i g : Nat) (hi : i ∈ I) (hg : SeeW.gl[i]? = some g) : ∃ a, bs[i]? = some a ∧ Err.At w g a :=
  let ⟨a, h1, h2, _, _⟩ := h.at_ i hi g hg; ⟨a, h1, h2⟩
/-- a device's maps -/
structure Mp where
  f : Nat
  p : Nat
  a : Nat
  i : Nat
  e : Nat
def Mp.list (m : Mp) : List Nat := [m.f, m.p, m.a, m.i, m.e]
/-- what a device holds -/
structure Dv where
  blocks : Nat
  fl : Int → Option (List Nat)
  pe : Int → Option (List Nat)
  fa : Int → Bool
  fi : Int → Bool
  ev : Int → Bool
  np : Nat
  ne : Nat
  calls : Nat
  fuse : Nat := 0
  down : Bool := false
abbrev cellsOf (m : Mp) (D : Dv) : Array Value := #[.int .i64 D.blocks, .map (some m.f), .map (some m.p), .map (some m.a), .map (some m.i), .map (some m.e), .int .i64 D.calls, .int .i64 D.fuse, .bool D.down]
/-- block d of w is a device: its blocks lie from lo on, its rows behind d; no map has more than n entries -/
structure At (w : World) (lo d n : Nat) (m : Mp) (D : Dv) : Prop where
  cells : w.heap[d]? = some (.cells (cellsOf m D) 117)
  rf : ∃ k, RowMap w 0 m.f n D.fl k
  rp : RowMap w 0 m.p n D.pe D.np
  ba : BoolMap w m.a n D.fa
  bi : BoolMap w m.i n D.fi
  be : SetMap w m.e n D.ev D.ne
  nodup : m.list.Nodup
  lod : lo ≤ d
  lom : ∀ x ∈ m.list, lo ≤ x
/-- the device's own blocks -/
abbrev own (d : Nat) (m : Mp) : List Nat := d :: m.list
theorem At.own_lo {w : World} {lo d n : Nat} {m : Mp} {D : Dv} (h : At w lo d n m D) : ∀ x ∈ own d m, lo ≤ x := by
  intro x hx
  rcases List.mem_cons.1 hx with rfl | hx
  · exact h.lod
  · exact h.lom x hx
/-- its maps are maps -/
theorem At.maps {w : World} {lo d n : Nat} {m : Mp} {D : Dv} (h : At w lo d n m D) : ∀ x ∈ m.list, ∃ es ck, w.heap[x]? = some (.map es ck) := by
  intro x hx
  simp only [Mp.list, List.mem_cons, List.not_mem_nil, or_false] at hx
  rcases hx with rfl | rfl | rfl | rfl | rfl
  · obtain ⟨k, hk⟩ := h.rf; exact hk.block
  · exact h.rp.block
  · exact h.ba.block
  · exact h.bi.block
  · exact h.be.block
theorem At.dlt {w : World} {lo d n : Nat} {m : Mp} {D : Dv} (h : At w lo d n m D) : d < w.heap.size := (Array.getElem?_eq_some_iff.1 h.cells).1
/-- a block of cells is none of its maps -/
theorem At.out {w : World} {lo d n : Nat} {m : Mp} {D : Dv} (h : At w lo d n m D) {k : Nat} {c : Array Value} {t : TypeId} {f : Nat × Nat} (hk : w.heap[k]? = some (.cells c t f)) (hd : k ≠ d) : k ∉ own d m := by
  intro hm
  rcases List.mem_cons.1 hm with e | hm
  · exact hd e
  · obtain ⟨es, ck, h1⟩ := h.maps k hm
    rw [hk] at h1
    cases h1
theorem At.mono {w : World} {lo lo' d n n' : Nat} {m : Mp} {D : Dv} (h : At w lo d n m D) (hn : n ≤ n') (hl : lo' ≤ lo) : At w lo' d n' m D := by
  obtain ⟨k, hk⟩ := h.rf
  exact ⟨h.cells, ⟨k, hk.mono hn (Nat.le_refl _)⟩, h.rp.mono hn (Nat.le_refl _), h.ba.mono hn, h.bi.mono hn, h.be.mono hn, h.nodup, Nat.le_trans hl h.lod, fun x hx => Nat.le_trans hl (h.lom x hx)⟩
/-- a block that is no row of cells -/
def NoCells (w : World) (x : Nat) : Prop := ∀ c t f, w.heap[x]? ≠ some (.cells c t f)
theorem nocells {w : World} {x : Nat} (h : ∃ es ck, w.heap[x]? = some (.map es ck)) : NoCells w x := by
  obtain ⟨es, ck, h⟩ := h
  intro c t f e
  rw [h] at e
  cases e
theorem rows_turn {S : List Nat} {w w' : World} {base b n np : Nat} {F : Int → Option (List Nat)} (h : RowMap w base b n F np) (ht : Turn S w w') (hb : b ∉ S)
    (hS : ∀ x ∈ S, x < base ∨ NoCells w x ∨ ∃ v, w.cell? ⟨x, 0, none⟩ = some v ∧ ∀ z, v ≠ .int .u8 z) : RowMap w' base b n F np := by
  obtain ⟨es0, ck0, hb0⟩ := h.block
  obtain ⟨D, h1, h2, h3⟩ := h
  refine ⟨D, ownsMap_of h1 (ht.block b (Array.getElem?_eq_some_iff.1 hb0).1 hb), h2, fun i => ?_⟩
  have := h3 i
  cases hF : F i with
  | none => rw [hF] at this; exact this
  | some l =>
    rw [hF] at this
    obtain ⟨a, g, cap, b1, b2, b3⟩ := this
    obtain ⟨c, t, f, hc⟩ := nums_cells b2 (by decide)
    refine ⟨a, g, cap, b1, nums_of_cells b2 (ht.block g (Array.getElem?_eq_some_iff.1 hc).1 fun hm => ?_), b3⟩
    rcases hS g hm with h | h | ⟨v, hv, hz⟩
    · omega
    · exact h _ _ _ hc
    · obtain ⟨b', o', he, hc'⟩ := b2.at (j := 0) (by rw [b2.len]; decide)
      cases he
      rw [Nat.zero_add] at hc'
      rw [hc'] at hv
      exact hz _ (Option.some.inj hv).symm
theorem bools_turn {S : List Nat} {w w' : World} {b n : Nat} {F : Int → Bool} (h : BoolMap w b n F) (ht : Turn S w w') (hb : b ∉ S) : BoolMap w' b n F := by
  obtain ⟨es0, ck0, hb0⟩ := h.block
  exact h.still (ht.block b (Array.getElem?_eq_some_iff.1 hb0).1 hb)
theorem sets_turn {S : List Nat} {w w' : World} {b n k : Nat} {F : Int → Bool} (h : SetMap w b n F k) (ht : Turn S w w') (hb : b ∉ S) : SetMap w' b n F k := by
  obtain ⟨es0, ck0, hb0⟩ := h.block
  exact h.still (ht.block b (Array.getElem?_eq_some_iff.1 hb0).1 hb)
/-- what writes elsewhere leaves it -/
theorem At.turn {S : List Nat} {w w' : World} {lo d n : Nat} {m : Mp} {D : Dv} (h : At w lo d n m D) (ht : Turn S w w') (hd : d ∉ S) (hm : ∀ x ∈ m.list, x ∉ S)
    (hS : ∀ x ∈ S, NoCells w x ∨ ∃ v, w.cell? ⟨x, 0, none⟩ = some v ∧ ∀ z, v ≠ .int .u8 z) : At w' lo d n m D := by
  have hm1 : ∀ x, x ∈ m.list → x ∉ S := hm
  obtain ⟨k, hk⟩ := h.rf
  have mm : m.f ∈ m.list ∧ m.p ∈ m.list ∧ m.a ∈ m.list ∧ m.i ∈ m.list ∧ m.e ∈ m.list := by simp [Mp.list]
  obtain ⟨m1, m2, m3, m4, m5⟩ := mm
  exact ⟨ht.cells h.cells hd, ⟨k, rows_turn hk ht (hm _ m1) fun x hx => .inr (hS x hx)⟩, rows_turn h.rp ht (hm _ m2) fun x hx => .inr (hS x hx), bools_turn h.ba ht (hm _ m3), bools_turn h.bi ht (hm _ m4), sets_turn h.be ht (hm _ m5), h.nodup, h.lod, h.lom⟩
theorem At.below {w w' : World} {lo d n : Nat} {m : Mp} {D : Dv} (h : At w lo d n m D) (hb : Below w.heap.size w w') : At w' lo d n m D :=
  h.turn (S := []) (Turn.of_below hb) (by simp) (by simp) (by simp)
theorem nums_turn {S : List Nat} {w w' : World} {a : Option Addr} {n cap : Nat} {l : List Nat} (h : Nums .u8 w a n cap l) (ht : Turn S w w') (hS : ∀ x ∈ S, ∀ off z, w.cell? ⟨x, off, none⟩ ≠ some (.int .u8 z)) : Nums .u8 w' a n cap l := by
  obtain ⟨h1, h2, h3, h4, h5⟩ := h
  refine ⟨h1, h2, h3, h4, fun j u hj => ?_⟩
  obtain ⟨b, o, rfl, hc⟩ := h5 j u hj
  refine ⟨b, o, rfl, ?_⟩
  obtain ⟨z, rfl⟩ : ∃ z, u = .int .u8 z := by
    obtain ⟨y, _, rfl⟩ := List.mem_map.1 (List.mem_of_getElem? hj)
    exact ⟨_, rfl⟩
  rw [World.cell?_of_block (w := w) (ht.block b (World.block_lt_of_cell? _ _ hc) fun hm => hS b hm _ _ hc)]
  exact hc
theorem nou8_cells {w : World} {x : Nat} {c : Array Value} {t : TypeId} (h : w.heap[x]? = some (.cells c t)) (hc : ∀ v ∈ c.toList, ∀ z, v ≠ .int .u8 z) (off : Nat) (z : Int) : w.cell? ⟨x, off, none⟩ ≠ some (.int .u8 z) := by
  intro e
  simp [World.cell?, h] at e
  exact hc _ (Array.mem_toList_iff.2 (Array.mem_of_getElem? e)) z rfl
theorem At.nou8 {w : World} {lo d n : Nat} {m : Mp} {D : Dv} (h : At w lo d n m D) : ∀ x ∈ own d m, ∀ off z, w.cell? ⟨x, off, none⟩ ≠ some (.int .u8 z) := by
  intro x hx off z
  rcases List.mem_cons.1 hx with rfl | hx
  · refine nou8_cells h.cells ?_ off z
    intro v hv z e
    subst e
    simp at hv
  · obtain ⟨es, ck, hb⟩ := h.maps x hx
    intro e
    simp [World.cell?, hb] at e
/-- a row is none of the device's blocks -/
theorem At.nerow {w : World} {lo d n : Nat} {m : Mp} {D : Dv} (h : At w lo d n m D) {g cap : Nat} {l : List Nat} (hl : Nums .u8 w (some ⟨g, 0, none⟩) 256 cap l) : g ≠ d := by
  rintro rfl
  obtain ⟨b', o', he, hc'⟩ := hl.at (j := 0) (by rw [hl.len]; decide)
  cases he
  rw [Nat.zero_add] at hc'
  exact h.nou8 g List.mem_cons_self 0 _ hc'
end Go.Proofs.YtbjfgdahfpfgdaaGreatDoor.DevG

namespace Go.Proofs.YtbjfgdahfpfgdaaGreatDoor.DevG
open Go Go.RowKit Go.Maps Go.Proofs.YtbjfgdahfpfgdaaGreatDoor.Mem Go.Proofs.YtbjfgdahfpfgdaaGreatDoor.MapsW Go.Proofs.YtbjfgdahfpfgdaaGreatDoor.SeeW
set_option linter.unusedVariables false
set_option maxRecDepth 100000

abbrev ptr (d : Nat) : Value := .pointer (some ⟨d, 0, none⟩)
theorem At.c {w : World} {lo d n : Nat} {m : Mp} {D : Dv} (h : At w lo d n m D) :
    w.cell? ⟨d, 0, none⟩ = some (.int .i64 D.blocks) ∧ w.cell? ⟨d, 1, none⟩ = some (.map (some m.f)) ∧ w.cell? ⟨d, 2, none⟩ = some (.map (some m.p)) ∧ w.cell? ⟨d, 3, none⟩ = some (.map (some m.a)) ∧
    w.cell? ⟨d, 4, none⟩ = some (.map (some m.i)) ∧ w.cell? ⟨d, 5, none⟩ = some (.map (some m.e)) ∧ w.cell? ⟨d, 6, none⟩ = some (.int .i64 D.calls) ∧ w.cell? ⟨d, 7, none⟩ = some (.int .i64 D.fuse) ∧ w.cell? ⟨d, 8, none⟩ = some (.bool D.down) ∧
    w.frozen? ⟨d, 6, none⟩ = false ∧ w.frozen? ⟨d, 2, none⟩ = false ∧ w.frozen? ⟨d, 7, none⟩ = false ∧ w.frozen? ⟨d, 8, none⟩ = false := by
  have := h.cells
  simp [World.cell?, World.frozen?, this]

theorem blocks_w (d lo n : Nat) (m : Mp) (D : Dv) (w : World) (h : At w lo d n m D) :
    Calls Tryz.prog 96 #[ptr d] w fun e w' => e = .returned (.int .i64 D.blocks) ∧ w = w' := by
  obtain ⟨c0, c1, c2, c3, c4, c5, c6, c7, c8, f6, f2, f7, f8⟩ := h.c
  go_enter Tryz.func96, Tryz.ntmps96
  go_wp2
  go_ret
  exact ⟨rfl, rfl⟩

theorem is_w (d lo n : Nat) (m : Mp) (D : Dv) (i : Int) (w : World) (h : At w lo d n m D) (hi : Fits i) :
    Calls Tryz.prog 109 #[ptr d, .int .i64 i] w fun e w' => e = .returned (.bool (decide (0 ≤ i ∧ i < D.blocks))) ∧ w = w' := by
  obtain ⟨c0, c1, c2, c3, c4, c5, c6, c7, c8, f6, f2, f7, f8⟩ := h.c
  clear h
  by_cases h0 : 0 ≤ i
  · by_cases h1 : i < D.blocks
    · go_enter Tryz.func109, Tryz.ntmps109
      go_wp2
      go_ret
      exact ⟨ret_bool (by simp [h0, h1]), rfl⟩
    · have h2 : decide (i < (D.blocks : Int)) = false := decide_eq_false h1
      go_enter Tryz.func109, Tryz.ntmps109
      go_wp2
      go_ret
      exact ⟨ret_bool (by simp), rfl⟩
  · have h2 : decide ((0 : Int) ≤ i) = false := decide_eq_false h0
    go_enter Tryz.func109, Tryz.ntmps109
    go_wp2
    go_ret
    exact ⟨ret_bool (by simp), rfl⟩

/-- the cells of a device written -/
theorem At.recell {w w' : World} {lo d n : Nat} {m : Mp} {D : Dv} (h : At w lo d n m D) (ht : Turn [d] w w') (c f : Nat) (b : Bool)
    (hc : w'.heap[d]? = some (.cells (cellsOf m { D with calls := c, fuse := f, down := b }) 117)) : At w' lo d n m { D with calls := c, fuse := f, down := b } := by
  have hne : ∀ x ∈ m.list, x ∉ [d] := by
    intro x hx hm
    rw [List.mem_singleton] at hm
    subst hm
    obtain ⟨es, ck, h3⟩ := h.maps x hx
    rw [h.cells] at h3
    cases h3
  obtain ⟨k, hk⟩ := h.rf
  have hS : ∀ x ∈ [d], x < 0 ∨ NoCells w x ∨ ∃ v, w.cell? ⟨x, 0, none⟩ = some v ∧ ∀ z, v ≠ .int .u8 z := by
    intro x hx
    rw [List.mem_singleton.1 hx]
    exact .inr (.inr ⟨_, h.c.1, fun z e => by cases e⟩)
  have mm : m.f ∈ m.list ∧ m.p ∈ m.list ∧ m.a ∈ m.list ∧ m.i ∈ m.list ∧ m.e ∈ m.list := by simp [Mp.list]
  obtain ⟨m1, m2, m3, m4, m5⟩ := mm
  exact ⟨hc, ⟨k, rows_turn hk ht (hne _ m1) hS⟩, rows_turn h.rp ht (hne _ m2) hS, bools_turn h.ba ht (hne _ m3), bools_turn h.bi ht (hne _ m4), sets_turn h.be ht (hne _ m5), h.nodup, h.lod, h.lom⟩
theorem At.setFuse {w : World} {lo d n : Nat} {m : Mp} {D : Dv} (h : At w lo d n m D) (f : Nat) : At (w.setCell ⟨d, 7, none⟩ (.int .i64 f)) lo d n m { D with fuse := f } :=
  h.recell (Turn.setCell w d 7 _ (by simp)) D.calls f D.down (by have := h.cells; simp [World.setCell, Array.getElem?_modify, this])
theorem At.setDown {w : World} {lo d n : Nat} {m : Mp} {D : Dv} (h : At w lo d n m D) (b : Bool) : At (w.setCell ⟨d, 8, none⟩ (.bool b)) lo d n m { D with down := b } :=
  h.recell (Turn.setCell w d 8 _ (by simp)) D.calls D.fuse b (by have := h.cells; simp [World.setCell, Array.getElem?_modify, this])
/-- a call that changes something: the fuse burns down -/
def Dv.tick (D : Dv) : Dv := if !D.down && decide (0 < D.fuse) then { D with fuse := D.fuse - 1, down := decide (D.fuse = 1) } else D
theorem Dv.tick_down {D : Dv} (h : D.down = true) : D.tick = D := by unfold Dv.tick; rw [h]; rfl
theorem Dv.tick_zero {D : Dv} (h : D.fuse = 0) : D.tick = D := by
  unfold Dv.tick; rw [h]; simp
theorem Dv.tick_some {D : Dv} (h : D.down = false) (h2 : 0 < D.fuse) : D.tick = { D with fuse := D.fuse - 1, down := decide (D.fuse = 1) } := by
  unfold Dv.tick; rw [h, decide_eq_true h2]; rfl
theorem Dv.tick_same (D : Dv) : D.tick.blocks = D.blocks ∧ D.tick.fl = D.fl ∧ D.tick.pe = D.pe ∧ D.tick.fa = D.fa ∧ D.tick.fi = D.fi ∧ D.tick.ev = D.ev ∧ D.tick.np = D.np ∧ D.tick.ne = D.ne ∧ D.tick.calls = D.calls ∧ D.tick.fuse ≤ D.fuse := by
  unfold Dv.tick
  split
  · exact ⟨rfl, rfl, rfl, rfl, rfl, rfl, rfl, rfl, rfl, Nat.sub_le ..⟩
  · exact ⟨rfl, rfl, rfl, rfl, rfl, rfl, rfl, rfl, rfl, Nat.le_refl _⟩
theorem gone_w (d lo n : Nat) (m : Mp) (D : Dv) (w : World) (h : At w lo d n m D) (hz : D.fuse ≤ 9223372036854775807) :
    Calls Tryz.prog 77 #[ptr d] w fun e w' => e = .returned (.bool D.tick.down) ∧ At w' lo d n m D.tick ∧ Turn [d] w w' := by
  obtain ⟨c0, c1, c2, c3, c4, c5, c6, c7, c8, f6, f2, f7, f8⟩ := h.c
  cases hd : D.down
  · rw [hd] at c8
    by_cases hf : 0 < D.fuse
    · have h1 := h.setFuse (D.fuse - 1)
      have h2 := h1.setDown (decide (D.fuse = 1))
      have e1 : (((D.fuse - 1 : Nat) : Int)) = (D.fuse : Int) - 1 := by omega
      rw [Dv.tick_some hd hf]
      rw [e1] at h1 h2
      have t1 : Turn [d] w (w.setCell ⟨d, 7, none⟩ (.int .i64 ((D.fuse : Int) - 1))) := Turn.setCell w d 7 _ (by simp)
      by_cases h1f : D.fuse = 1
      · have e2 : decide (D.fuse = 1) = true := decide_eq_true h1f
        have e3 : decide ((D.fuse : Int) - 1 = 0) = true := decide_eq_true (by omega)
        have e4 : ((D.fuse : Int) - 1 == 0) = true := by rw [beq_iff_eq]; omega
        rw [e2] at h2 ⊢
        obtain ⟨z0, z1, z2, z3, z4, z5, z6, z7, z8, g6, g2, g7, g8⟩ := h1.c
        obtain ⟨y0, y1, y2, y3, y4, y5, y6, y7, y8, k6, k2, k7, k8⟩ := h2.c
        simp only [e1] at z7 y7
        simp only at y8
        have H2 := hid h2
        clear h1 h2 e1 e2 h1f
        go_enter Tryz.func77, Tryz.ntmps77
        go_wp2
        go_ret
        exact ⟨rfl, H2.out, t1.then (Turn.setCell _ d 8 _ (by simp))⟩
      · have e2 : decide (D.fuse = 1) = false := decide_eq_false h1f
        have e3 : decide ((D.fuse : Int) - 1 = 0) = false := decide_eq_false (by omega)
        have e4 : ((D.fuse : Int) - 1 == 0) = false := by rw [beq_eq_false_iff_ne]; omega
        rw [e2] at h2 ⊢
        obtain ⟨z0, z1, z2, z3, z4, z5, z6, z7, z8, g6, g2, g7, g8⟩ := h1.c
        obtain ⟨y0, y1, y2, y3, y4, y5, y6, y7, y8, k6, k2, k7, k8⟩ := h2.c
        simp only [e1] at z7 y7
        simp only at y8
        have H2 := hid h2
        clear h1 h2 e1 e2 h1f
        go_enter Tryz.func77, Tryz.ntmps77
        go_wp2
        go_ret
        exact ⟨rfl, H2.out, t1.then (Turn.setCell _ d 8 _ (by simp))⟩
    · have h0 : D.fuse = 0 := by omega
      rw [Dv.tick_zero h0, hd]
      rw [h0] at c7
      go_enter Tryz.func77, Tryz.ntmps77
      go_wp2
      go_ret
      exact ⟨rfl, h, Turn.refl _ _⟩
  · rw [hd] at c8
    rw [Dv.tick_down hd, hd]
    go_enter Tryz.func77, Tryz.ntmps77
    go_wp2
    go_ret
    exact ⟨rfl, h, Turn.refl _ _⟩

theorem faulted_w (d lo n : Nat) (m : Mp) (D : Dv) (i : Int) (w : World) (h : At w lo d n m D) (hi : Fits i) :
    Calls Tryz.prog 43 #[ptr d, .int .i64 i] w fun e w' => e = .returned (.bool (D.fa i)) ∧ w = w' := by
  obtain ⟨c0, c1, c2, c3, c4, c5, c6, c7, c8, f6, f2, f7, f8⟩ := h.c
  have hl := h.ba.look hi
  clear h
  go_enter Tryz.func43, Tryz.ntmps43
  go_wp2
  go_ret
  exact ⟨rfl, rfl⟩

/-- what lies there for good -/
def keptOf (D : Dv) (i : Int) : List Nat := (D.fl i).getD (List.replicate 256 0)
set_option maxHeartbeats 800000 in
theorem kept_w (d lo n : Nat) (m : Mp) (D : Dv) (i : Int) (w : World) (h : At w lo d n m D) (hi : Fits i) :
    Calls Tryz.prog 73 #[ptr d, .int .i64 i] w fun e w' => ∃ g cap, e = .returned (.slice (some ⟨g, 0, none⟩) 256 cap) ∧ Nums .u8 w' (some ⟨g, 0, none⟩) 256 cap (keptOf D i) ∧ 0 ≤ g ∧ Below w.heap.size w w' := by
  obtain ⟨c0, c1, c2, c3, c4, c5, c6, c7, c8, f6, f2, f7, f8⟩ := h.c
  obtain ⟨k, hk⟩ := h.rf
  have hd := h.dlt
  cases hF : D.fl i with
  | none =>
    have hl := hk.look_none hi hF
    have e : keptOf D i = List.replicate 256 0 := by unfold keptOf; rw [hF]; rfl
    rw [e]
    clear h hk hF e
    go_enter Tryz.func73, Tryz.ntmps73
    go_wp2_with (at_make; go_must (refine wpList_mkn RefW.elU8 rfl _ _ rfl w.heap.size _ _ _ _ 256 rfl rfl rfl rfl (by decide) (by decide) (Nat.le_refl _) ?_); intro w1 hown1 hg1)
    go_ret
    rw [RefW.made_nums] at hown1
    exact ⟨_, _, rfl, OwnN.nums hown1, Nat.zero_le _, below_growns hg1 (Nat.le_refl _)⟩
  | some l =>
    obtain ⟨g, cap, hl, hn, hg⟩ := hk.look_some hi hF
    have e : keptOf D i = l := by unfold keptOf; rw [hF]; rfl
    rw [e]
    clear h hk hF e
    go_enter Tryz.func73, Tryz.ntmps73
    go_wp2
    go_ret
    exact ⟨_, _, rfl, hn, by omega, Below.refl _ _⟩
end Go.Proofs.YtbjfgdahfpfgdaaGreatDoor.DevG

namespace Go.Proofs.YtbjfgdahfpfgdaaGreatDoor.DevG
open Go Go.RowKit Go.Maps Go.Proofs.YtbjfgdahfpfgdaaGreatDoor.Mem Go.Proofs.YtbjfgdahfpfgdaaGreatDoor.MapsW Go.Proofs.YtbjfgdahfpfgdaaGreatDoor.SeeW
set_option linter.unusedVariables false
set_option maxRecDepth 100000

theorem fits_nat {i : Nat} (h : i ≤ 1000000) : Fits (i : Int) := by unfold Fits; omega

theorem mem_own (d : Nat) (m : Mp) : d ∈ own d m ∧ m.f ∈ own d m ∧ m.p ∈ own d m ∧ m.a ∈ own d m ∧ m.i ∈ own d m ∧ m.e ∈ own d m := by simp [own, Mp.list]
theorem At.ne {w : World} {lo d n : Nat} {m : Mp} {D : Dv} (h : At w lo d n m D) : m.f ≠ d ∧ m.p ≠ d ∧ m.a ≠ d ∧ m.i ≠ d ∧ m.e ≠ d := by
  have h1 := h.maps
  have h2 := h.cells
  have : ∀ x ∈ m.list, x ≠ d := by
    intro x hx e
    obtain ⟨es, ck, h3⟩ := h1 x hx
    rw [e, h2] at h3
    cases h3
  exact ⟨this _ (by simp [Mp.list]), this _ (by simp [Mp.list]), this _ (by simp [Mp.list]), this _ (by simp [Mp.list]), this _ (by simp [Mp.list])⟩
theorem At.nd {w : World} {lo d n : Nat} {m : Mp} {D : Dv} (h : At w lo d n m D) : m.f ≠ m.p ∧ m.f ≠ m.a ∧ m.f ≠ m.i ∧ m.f ≠ m.e ∧ m.p ≠ m.a ∧ m.p ≠ m.i ∧ m.p ≠ m.e ∧ m.a ≠ m.i ∧ m.a ≠ m.e ∧ m.i ≠ m.e := by
  have := h.nodup
  simp [Mp.list] at this
  obtain ⟨⟨a, b, c, d⟩, ⟨e, f, g⟩, ⟨h, i⟩, j⟩ := this
  exact ⟨a, b, c, d, e, f, g, h, i, j⟩

/-- a map of it written -/
theorem At.putP {w w' : World} {lo d n np : Nat} {m : Mp} {D : Dv} {F : Int → Option (List Nat)} (h : At w lo d n m D) (hr : RowMap w' 0 m.p (n + 1) F np) (hg : w.grownBy w' (some m.p)) : At w' lo d (n + 1) m { D with pe := F, np := np } := by
  have ht : Turn [m.p] w w' := Turn.of_grown hg (by simp)
  obtain ⟨n1, n2, n3, n4, n5⟩ := h.ne
  obtain ⟨e1, e2, e3, e4, e5, e6, e7, e8, e9, e10⟩ := h.nd
  obtain ⟨k, hk⟩ := h.rf
  have hS : ∀ x ∈ [m.p], x < 0 ∨ NoCells w x ∨ ∃ v, w.cell? ⟨x, 0, none⟩ = some v ∧ ∀ z, v ≠ .int .u8 z := by
    intro x hx
    rw [List.mem_singleton.1 hx]
    exact .inr (.inl (nocells h.rp.block))
  exact ⟨ht.cells h.cells (by simp; omega), ⟨k, (rows_turn hk ht (by simp; exact e1) hS).mono (by omega) (Nat.le_refl _)⟩, hr, (bools_turn h.ba ht (by simp; omega)).mono (by omega), (bools_turn h.bi ht (by simp; omega)).mono (by omega), (sets_turn h.be ht (by simp; omega)).mono (by omega), h.nodup, h.lod, h.lom⟩
theorem At.putF {w w' : World} {lo d n np : Nat} {m : Mp} {D : Dv} {F : Int → Option (List Nat)} (h : At w lo d n m D) (hr : RowMap w' 0 m.f (n + 1) F np) (hg : w.grownBy w' (some m.f)) : At w' lo d (n + 1) m { D with fl := F } := by
  have ht : Turn [m.f] w w' := Turn.of_grown hg (by simp)
  obtain ⟨n1, n2, n3, n4, n5⟩ := h.ne
  obtain ⟨e1, e2, e3, e4, e5, e6, e7, e8, e9, e10⟩ := h.nd
  obtain ⟨k, hk⟩ := h.rf
  have hS : ∀ x ∈ [m.f], x < 0 ∨ NoCells w x ∨ ∃ v, w.cell? ⟨x, 0, none⟩ = some v ∧ ∀ z, v ≠ .int .u8 z := by
    intro x hx
    rw [List.mem_singleton.1 hx]
    exact .inr (.inl (nocells hk.block))
  exact ⟨ht.cells h.cells (by simp; omega), ⟨np, hr⟩, (rows_turn h.rp ht (by simp; omega) hS).mono (by omega) (Nat.le_refl _), (bools_turn h.ba ht (by simp; omega)).mono (by omega), (bools_turn h.bi ht (by simp; omega)).mono (by omega), (sets_turn h.be ht (by simp; omega)).mono (by omega), h.nodup, h.lod, h.lom⟩
theorem At.putA {w w' : World} {lo d n : Nat} {m : Mp} {D : Dv} {F : Int → Bool} (h : At w lo d n m D) (hr : BoolMap w' m.a (n + 1) F) (hg : w.grownBy w' (some m.a)) : At w' lo d (n + 1) m { D with fa := F } := by
  have ht : Turn [m.a] w w' := Turn.of_grown hg (by simp)
  obtain ⟨n1, n2, n3, n4, n5⟩ := h.ne
  obtain ⟨e1, e2, e3, e4, e5, e6, e7, e8, e9, e10⟩ := h.nd
  obtain ⟨k, hk⟩ := h.rf
  have hS : ∀ x ∈ [m.a], x < 0 ∨ NoCells w x ∨ ∃ v, w.cell? ⟨x, 0, none⟩ = some v ∧ ∀ z, v ≠ .int .u8 z := by
    intro x hx
    rw [List.mem_singleton.1 hx]
    exact .inr (.inl (nocells h.ba.block))
  exact ⟨ht.cells h.cells (by simp; omega), ⟨k, (rows_turn hk ht (by simp; omega) hS).mono (by omega) (Nat.le_refl _)⟩, (rows_turn h.rp ht (by simp; omega) hS).mono (by omega) (Nat.le_refl _), hr, (bools_turn h.bi ht (by simp; omega)).mono (by omega), (sets_turn h.be ht (by simp; omega)).mono (by omega), h.nodup, h.lod, h.lom⟩
theorem At.putI {w w' : World} {lo d n : Nat} {m : Mp} {D : Dv} {F : Int → Bool} (h : At w lo d n m D) (hr : BoolMap w' m.i (n + 1) F) (hg : w.grownBy w' (some m.i)) : At w' lo d (n + 1) m { D with fi := F } := by
  have ht : Turn [m.i] w w' := Turn.of_grown hg (by simp)
  obtain ⟨n1, n2, n3, n4, n5⟩ := h.ne
  obtain ⟨e1, e2, e3, e4, e5, e6, e7, e8, e9, e10⟩ := h.nd
  obtain ⟨k, hk⟩ := h.rf
  have hS : ∀ x ∈ [m.i], x < 0 ∨ NoCells w x ∨ ∃ v, w.cell? ⟨x, 0, none⟩ = some v ∧ ∀ z, v ≠ .int .u8 z := by
    intro x hx
    rw [List.mem_singleton.1 hx]
    exact .inr (.inl (nocells h.bi.block))
  exact ⟨ht.cells h.cells (by simp; omega), ⟨k, (rows_turn hk ht (by simp; omega) hS).mono (by omega) (Nat.le_refl _)⟩, (rows_turn h.rp ht (by simp; omega) hS).mono (by omega) (Nat.le_refl _), (bools_turn h.ba ht (by simp; omega)).mono (by omega), hr, (sets_turn h.be ht (by simp; omega)).mono (by omega), h.nodup, h.lod, h.lom⟩
theorem At.putE {w w' : World} {lo d n k : Nat} {m : Mp} {D : Dv} {F : Int → Bool} (h : At w lo d n m D) (hr : SetMap w' m.e (n + 1) F k) (hg : w.grownBy w' (some m.e)) : At w' lo d (n + 1) m { D with ev := F, ne := k } := by
  have ht : Turn [m.e] w w' := Turn.of_grown hg (by simp)
  obtain ⟨n1, n2, n3, n4, n5⟩ := h.ne
  obtain ⟨e1, e2, e3, e4, e5, e6, e7, e8, e9, e10⟩ := h.nd
  obtain ⟨k0, hk⟩ := h.rf
  have hS : ∀ x ∈ [m.e], x < 0 ∨ NoCells w x ∨ ∃ v, w.cell? ⟨x, 0, none⟩ = some v ∧ ∀ z, v ≠ .int .u8 z := by
    intro x hx
    rw [List.mem_singleton.1 hx]
    exact .inr (.inl (nocells h.be.block))
  exact ⟨ht.cells h.cells (by simp; omega), ⟨k0, (rows_turn hk ht (by simp; omega) hS).mono (by omega) (Nat.le_refl _)⟩, (rows_turn h.rp ht (by simp; omega) hS).mono (by omega) (Nat.le_refl _), (bools_turn h.ba ht (by simp; omega)).mono (by omega), (bools_turn h.bi ht (by simp; omega)).mono (by omega), hr, h.nodup, h.lod, h.lom⟩

/-- one more call -/
theorem At.count {w : World} {lo d n : Nat} {m : Mp} {D : Dv} (h : At w lo d n m D) (c : Nat) : At (w.setCell ⟨d, 6, none⟩ (.int .i64 c)) lo d n m { D with calls := c } :=
  h.recell (Turn.setCell w d 6 _ (by simp)) c D.fuse D.down (by have := h.cells; simp [World.setCell, Array.getElem?_modify, this])

/-- what one row is, of an owned slice -/
theorem row_of {w : World} {base : Nat} {v : Value} {l : List Nat} (h : w.ownsRow base 5 1 v 256 (nums .u8 l)) : ∃ g cap, v = .slice (some ⟨g, 0, none⟩) 256 cap ∧ Nums .u8 w (some ⟨g, 0, none⟩) 256 cap l ∧ base ≤ g := by
  obtain ⟨a, cap, rfl, hr⟩ := ownsRow_slice h
  obtain ⟨g, rfl⟩ := own_some h (by decide)
  exact ⟨g, cap, rfl, hr, (h.lt g rfl).1⟩

/-- what a device has behind a write -/
def Dv.put (D : Dv) (i : Int) (l : List Nat) : Dv := { D with pe := upd D.pe i (some l), np := if (D.pe i).isSome then D.np else D.np + 1, calls := D.calls + 1 }
/-- a write of n bytes: what is told, what the device has then -/
def Dv.write (D : Dv) (i : Int) (n : Nat) (l : List Nat) : Option Nat × Dv :=
  if D.tick.down then (some 5, D.tick) else if 0 ≤ i ∧ i < D.blocks then if n = 256 then (none, D.tick.put i l) else (some 1, D.tick) else (some 4, D.tick)

theorem own1 {d : Nat} {m : Mp} {w w' : World} (h : Turn [d] w w') : Turn (own d m) w w' := h.mono fun x hx => by rw [List.mem_singleton.1 hx]; exact (mem_own d m).1
set_option maxHeartbeats 1600000 in
theorem write_ok (d lo n : Nat) (m : Mp) (D : Dv) (i : Nat) (a : Option Addr) (cap : Nat) (l : List Nat) (w : World) (h : At w lo d n m D) (hi : i < D.blocks) (hb : D.blocks ≤ 6000) (hl : Nums .u8 w a 256 cap l) (hn : n < 900000) (hc : D.calls < 1000000) (hz : D.fuse ≤ 9223372036854775807) (hdn : D.tick.down = false) :
    Calls Tryz.prog 112 #[ptr d, .int .i64 i, .slice a 256 cap] w fun e w' => e = .returned .nilIface ∧ At w' lo d (n + 1) m (D.tick.put i l) ∧ Turn (own d m) w w' := by
  have hf : Fits (i : Int) := fits_nat (by omega)
  have htb := D.tick_same.1
  have htc := D.tick_same.2.2.2.2.2.2.2.2.1
  have hd : decide (0 ≤ (i : Int) ∧ (i : Int) < D.tick.blocks) = true := by rw [decide_eq_true_eq, htb]; omega
  go_enter Tryz.func112, Tryz.ntmps112
  go_wp2_with fail
  refine (gone_w d lo n m D _ h hz).mono ?_
  rintro e w0 ⟨rfl, h0, t0⟩
  rw [hdn]
  have hl0 := nums_turn hl (own1 (m := m) t0) h.nou8
  clear h hl
  have hdl := h0.dlt
  obtain ⟨c0, c1, c2, c3, c4, c5, c6, c7, c8, f6, f2, f7, f8⟩ := h0.c
  go_wp2_with fail
  refine (is_w d lo n m _ i _ h0 hf).mono ?_
  rintro e w' ⟨rfl, rfl⟩
  rw [hd]
  go_wp2_with fail
  go_region_held3 (fun w' => w'.cell? ⟨d, 2, none⟩ = some (.map (some m.p))) (first | exact c2 | exact x3 | exact x4 | go_keep)
    ((go_at_call 48; refine (RefW.clone_w a 256 cap l _ (Nums.below hl0 (below_drewN (Below.refl _ _) _)) (by decide)).mono ?_; rintro e w3 ⟨v, rfl, own3, hb3⟩; obtain ⟨g, gc, rfl, hg, hgb⟩ := row_of own3; have hgb' : w0.heap.size ≤ g := hgb; have h3 := (At.below h0 (below_drewN (Below.refl _ _) 1)).below hb3; obtain ⟨w4, hrun, hr4, hg4⟩ := RowMap.store h3.rp (by omega) hf hg (show 0 ≤ g by omega); have x3 := h3.c.2.2.1; have h4 := h3.putP hr4 hg4; have x4 := h4.c.2.2.1))
  have hT : Turn (own d m) w w4 := (own1 t0).then (((Turn.of_below (below_drewN (Below.refl _ w0) 1)).then (Turn.of_below hb3)).then (Turn.of_grown hg4 (mem_own d m).2.2.1))
  obtain ⟨z0, z1, z2, z3, z4, z5, z6, z7, z8, z9, z10, z11, z12⟩ := h4.c
  have H4 := hid h4
  clear h4 h3 h0 c0 c1 c2 c3 c4 c5 c6 c7 c8 f6 f2 f7 f8 x3 x4 hr4 hg4 hrun hg hgb hgb' own3 hb3 hl0
  simp only [htc] at z0 z1 z2 z3 z4 z5 z6 z7 z8
  go_wp2
  go_ret
  refine ⟨rfl, ?_, hT.then (Turn.setCell _ _ _ _ (mem_own d m).1)⟩
  have := H4.out.count (D.calls + 1)
  rw [show ((D.calls + 1 : Nat) : Int) = (D.calls : Int) + 1 by omega] at this
  unfold Dv.put
  rw [htc]
  exact this

theorem write_no (bs : List Addr) (d lo n : Nat) (m : Mp) (D : Dv) (i : Int) (a : Option Addr) (len cap : Nat) (w : World) (h : At w lo d n m D) (hB : Ev w lo bs five) (hz : D.fuse ≤ 9223372036854775807) (hf : Fits i) (k g : Nat) (hk : k ∈ five) (hg : SeeW.gl[k]? = some g)
    (hw : (D.tick.down = true ∧ k = 5) ∨ (D.tick.down = false ∧ ¬ (0 ≤ i ∧ i < D.blocks) ∧ k = 4) ∨ (D.tick.down = false ∧ (0 ≤ i ∧ i < D.blocks) ∧ len ≠ 256 ∧ k = 1)) :
    Calls Tryz.prog 112 #[ptr d, .int .i64 i, .slice a len cap] w fun e w' => (∃ a, bs[k]? = some a ∧ e = .returned (ev a)) ∧ At w' lo d n m D.tick ∧ Turn [d] w w' := by
  have htb := D.tick_same.1
  obtain ⟨aF, haF, hAF⟩ := hB.get k g hk hg
  rcases hw with ⟨hdn, rfl⟩ | ⟨hdn, hi, rfl⟩ | ⟨hdn, hi, hne, rfl⟩
  · cases hg
    go_enter Tryz.func112, Tryz.ntmps112
    go_wp2_with fail
    refine (gone_w d lo n m D _ h hz).mono ?_
    rintro e w0 ⟨rfl, h0, t0⟩
    rw [hdn]
    have hA1 := ((hB.turn t0 (fun x hx => by rw [List.mem_singleton.1 hx]; exact h.lod)).get 5 _ hk rfl)
    obtain ⟨a', ha', hA1, _⟩ := hA1
    obtain rfl := Option.some.inj (ha'.symm.trans haF)
    go_wp2
    go_ret
    exact ⟨⟨_, haF, rfl⟩, h0, t0⟩
  · cases hg
    have hd : decide (0 ≤ i ∧ i < D.tick.blocks) = false := by rw [decide_eq_false_iff_not, htb]; exact hi
    go_enter Tryz.func112, Tryz.ntmps112
    go_wp2_with fail
    refine (gone_w d lo n m D _ h hz).mono ?_
    rintro e w0 ⟨rfl, h0, t0⟩
    rw [hdn]
    have hA1 := ((hB.turn t0 (fun x hx => by rw [List.mem_singleton.1 hx]; exact h.lod)).get 4 _ hk rfl)
    obtain ⟨a', ha', hA1, _⟩ := hA1
    obtain rfl := Option.some.inj (ha'.symm.trans haF)
    go_wp2_with fail
    refine (is_w d lo n m _ i _ h0 hf).mono ?_
    rintro e w' ⟨rfl, rfl⟩
    rw [hd]
    clear hi
    go_wp2
    go_ret
    exact ⟨⟨_, haF, rfl⟩, h0, t0⟩
  · cases hg
    have hd : decide (0 ≤ i ∧ i < D.tick.blocks) = true := by rw [decide_eq_true_eq, htb]; exact hi
    have hx : ((len : Int) != 256) = true := by rw [bne_iff_ne]; omega
    go_enter Tryz.func112, Tryz.ntmps112
    go_wp2_with fail
    refine (gone_w d lo n m D _ h hz).mono ?_
    rintro e w0 ⟨rfl, h0, t0⟩
    rw [hdn]
    have hA1 := ((hB.turn t0 (fun x hx => by rw [List.mem_singleton.1 hx]; exact h.lod)).get 1 _ hk rfl)
    obtain ⟨a', ha', hA1, _⟩ := hA1
    obtain rfl := Option.some.inj (ha'.symm.trans haF)
    go_wp2_with fail
    refine (is_w d lo n m _ i _ h0 hf).mono ?_
    rintro e w' ⟨rfl, rfl⟩
    rw [hd]
    clear hi
    go_wp2
    go_ret
    exact ⟨⟨_, haF, rfl⟩, h0, t0⟩

/-- any write -/
theorem write_w (bs : List Addr) (d lo n : Nat) (m : Mp) (D : Dv) (i : Int) (a : Option Addr) (len cap : Nat) (l : List Nat) (w : World) (h : At w lo d n m D) (hB : Ev w lo bs five) (hf : Fits i) (hb : D.blocks ≤ 6000) (hl : Nums .u8 w a len cap l) (hn : n < 900000) (hc : D.calls < 1000000) (hz : D.fuse ≤ 9223372036854775807) :
    Calls Tryz.prog 112 #[ptr d, .int .i64 i, .slice a len cap] w fun e w' => (∃ v, Says bs (D.write i len l).1 v ∧ e = .returned v) ∧ At w' lo d (n + 1) m (D.write i len l).2 ∧ Turn (own d m) w w' := by
  have no : ∀ k g, k ∈ five → SeeW.gl[k]? = some g → ((D.tick.down = true ∧ k = 5) ∨ (D.tick.down = false ∧ ¬ (0 ≤ i ∧ i < D.blocks) ∧ k = 4) ∨ (D.tick.down = false ∧ (0 ≤ i ∧ i < D.blocks) ∧ len ≠ 256 ∧ k = 1)) →
      Calls Tryz.prog 112 #[ptr d, .int .i64 i, .slice a len cap] w fun e w' => (∃ v, Says bs (some k) v ∧ e = .returned v) ∧ At w' lo d (n + 1) m D.tick ∧ Turn (own d m) w w' := by
    intro k g hk hg hw
    refine (write_no bs d lo n m D i a len cap w h hB hz hf k g hk hg hw).mono ?_
    rintro e w' ⟨⟨aa, h1, rfl⟩, h2, h3⟩
    exact ⟨⟨_, ⟨aa, h1, rfl⟩, rfl⟩, h2.mono (by omega) (Nat.le_refl _), own1 h3⟩
  unfold Dv.write
  by_cases h1 : D.tick.down = true
  · rw [if_pos h1]
    exact no 5 _ (by decide) rfl (.inl ⟨h1, rfl⟩)
  · have h1' : D.tick.down = false := by simpa using h1
    rw [if_neg h1]
    by_cases h2 : 0 ≤ i ∧ i < D.blocks
    · rw [if_pos h2]
      by_cases h3 : len = 256
      · subst h3
        rw [if_pos rfl]
        obtain ⟨j, rfl⟩ := Int.eq_ofNat_of_zero_le h2.1
        refine (write_ok d lo n m D j a cap l w h (by omega) hb hl hn hc hz h1').mono ?_
        rintro e w' ⟨rfl, h4, h5⟩
        exact ⟨⟨_, rfl, rfl⟩, h4, h5⟩
      · rw [if_neg h3]
        exact no 1 _ (by decide) rfl (.inr (.inr ⟨h1', h2, h3, rfl⟩))
    · rw [if_neg h2]
      exact no 4 _ (by decide) rfl (.inr (.inl ⟨h1', h2, rfl⟩))

/-- what a device has behind a fault -/
def Dv.fault (D : Dv) (i : Int) : Dv := { D with fa := upd D.fa i true, ev := upd D.ev i true, ne := if D.ev i then D.ne else D.ne + 1 }
set_option maxHeartbeats 800000 in
theorem fault_w (d lo n : Nat) (m : Mp) (D : Dv) (i : Int) (w : World) (h : At w lo d n m D) (hf : Fits i) (hn : n < 900000) :
    Calls Tryz.prog 71 #[ptr d, .int .i64 i] w fun e w' => e = .returned (.tuple #[]) ∧ At w' lo d (n + 2) m (D.fault i) ∧ Turn (own d m) w w' := by
  obtain ⟨c0, c1, c2, c3, c4, c5, c6, c7, c8, f6, f2, f7, f8⟩ := h.c
  go_enter Tryz.func71, Tryz.ntmps71
  go_wp2_with (first
    | (at_mapUpdate; refine wpList_putBool _ rfl _ _ _ rfl h.ba (by omega) hf true rfl rfl rfl ?_; intro w1 hr1 hg1; have h1 := h.putA hr1 hg1; obtain ⟨z0, z1, z2, z3, z4, z5, z6, z7, z8, z9, z10, z11, z12⟩ := h1.c)
    | (at_mapUpdate; refine wpList_putSet _ rfl _ _ _ rfl h1.be (by omega) hf rfl rfl rfl ?_; intro w2 hr2 hg2))
  refine bodyPost_end (v := .tuple #[]) (by simp [results, Tryz.results71, go_sem]) rfl ?_
  exact ⟨rfl, h1.putE hr2 hg2, (Turn.of_grown hg1 (mem_own d m).2.2.2.1).then (Turn.of_grown hg2 (mem_own d m).2.2.2.2.2)⟩

/-- what a device has when a block is laid down for good -/
def Dv.lay (D : Dv) (i : Int) (l : List Nat) : Dv := { D with fl := upd D.fl i (some l), fa := upd D.fa i false, fi := upd D.fi i false }
theorem At.delA {w w' : World} {lo d n : Nat} {m : Mp} {D : Dv} {F : Int → Bool} (h : At w lo d n m D) (hr : BoolMap w' m.a n F) (hg : w.grownBy w' (some m.a)) : At w' lo d (n + 1) m { D with fa := F } := h.putA (hr.mono (by omega)) hg
theorem At.delI {w w' : World} {lo d n : Nat} {m : Mp} {D : Dv} {F : Int → Bool} (h : At w lo d n m D) (hr : BoolMap w' m.i n F) (hg : w.grownBy w' (some m.i)) : At w' lo d (n + 1) m { D with fi := F } := h.putI (hr.mono (by omega)) hg
set_option maxHeartbeats 1600000 in
theorem lay_w (d lo n : Nat) (m : Mp) (D : Dv) (i : Int) (g cap : Nat) (l : List Nat) (w : World) (h : At w lo d n m D) (hf : Fits i) (hl : Nums .u8 w (some ⟨g, 0, none⟩) 256 cap l) (hg : 0 ≤ g) (hn : n < 900000) :
    Calls Tryz.prog 64 #[ptr d, .int .i64 i, .slice (some ⟨g, 0, none⟩) 256 cap] w fun e w' => e = .returned (.tuple #[]) ∧ At w' lo d (n + 3) m (D.lay i l) ∧ Turn [m.f, m.a, m.i] w w' := by
  obtain ⟨c0, c1, c2, c3, c4, c5, c6, c7, c8, f6, f2, f7, f8⟩ := h.c
  obtain ⟨k, hk⟩ := h.rf
  go_enter Tryz.func64, Tryz.ntmps64
  go_wp2_with (first
    | (at_mapUpdate; refine wpList_putRow _ rfl _ _ _ rfl hk (by omega) hf hl (by omega) rfl rfl rfl ?_; intro w1 hr1 hg1; have h1 := h.putF hr1 hg1; obtain ⟨z0, z1, z2, z3, z4, z5, z6, z7, z8, z9, z10, z11, z12⟩ := h1.c)
    | (at_delete; refine wpList_delBool _ rfl _ _ rfl h1.ba hf rfl rfl ?_; intro w2 hr2 hg2; have h2 := h1.delA hr2 hg2; obtain ⟨y0, y1, y2, y3, y4, y5, y6, y7, y8, y9, y10, y11, y12⟩ := h2.c)
    | (at_delete; refine wpList_delBool _ rfl _ _ rfl h2.bi hf rfl rfl ?_; intro w3 hr3 hg3))
  refine bodyPost_end (v := .tuple #[]) (by simp [results, Tryz.results64, go_sem]) rfl ?_
  exact ⟨rfl, h2.delI hr3 hg3, ((Turn.of_grown hg1 (by simp)).then (Turn.of_grown hg2 (by simp))).then (Turn.of_grown hg3 (by simp))⟩

/-- a block may be faulted -/
def Dv.may (D : Dv) (i : Int) : Bool := decide (0 ≤ i ∧ i < D.blocks) && (!(D.pe i).isSome && !D.fa i)
set_option maxHeartbeats 800000 in
theorem may_w (d lo n : Nat) (m : Mp) (D : Dv) (i : Int) (w : World) (h : At w lo d n m D) (hf : Fits i) :
    Calls Tryz.prog 70 #[ptr d, .int .i64 i] w fun e w' => e = .returned (.bool (D.may i)) ∧ w = w' := by
  obtain ⟨c0, c1, c2, c3, c4, c5, c6, c7, c8, f6, f2, f7, f8⟩ := h.c
  have hla := h.ba.look hf
  unfold Dv.may
  cases hd : decide (0 ≤ i ∧ i < D.blocks)
  · go_enter Tryz.func70, Tryz.ntmps70
    go_wp2_with fail
    refine (is_w d lo n m D i _ h hf).mono ?_
    rintro e w' ⟨rfl, rfl⟩
    rw [hd]
    go_wp2
    go_ret
    exact ⟨rfl, rfl⟩
  · cases hF : D.pe i with
    | none =>
      have hl := h.rp.look_none hf hF
      cases hb2 : D.fa i
      all_goals
        rw [hb2] at hla
        go_enter Tryz.func70, Tryz.ntmps70
        go_wp2_with fail
        refine (is_w d lo n m D i _ h hf).mono ?_
        rintro e w' ⟨rfl, rfl⟩
        rw [hd]
        go_wp2
        go_ret
        exact ⟨ret_bool (by simp), rfl⟩
    | some l =>
      obtain ⟨g, cap, hl, _, _⟩ := h.rp.look_some hf hF
      go_enter Tryz.func70, Tryz.ntmps70
      go_wp2_with fail
      refine (is_w d lo n m D i _ h hf).mono ?_
      rintro e w' ⟨rfl, rfl⟩
      rw [hd]
      go_wp2
      go_ret
      exact ⟨ret_bool (by simp), rfl⟩
end Go.Proofs.YtbjfgdahfpfgdaaGreatDoor.DevG
