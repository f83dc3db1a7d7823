/- A slice of things that are done: structs of three ints, a word, bytes. -/
import Derived.Test.YtagbnacffiagcaaDoorStructs
import Derived.ChangeSlices
import Derived.Test.YtagbnacffiagcaaDoorRefWalk
namespace Go.Proofs.YtagbnacffiagcaaDoor.Mem
open Go Go.RowKit Go.ChangeShapes Go.WideShapes Go.Deep
set_option linter.unusedVariables false

/-- the i-th of them -/
structure DoAt (w : World) (b o i : Nat) (K N A : Int) (T : Nat) (s : Option Addr) (sl sc : Nat) (l : List Nat) : Prop where
  c0 : w.cell? ⟨b, o + i * 5, none⟩ = some (.int .i64 K)
  c1 : w.cell? ⟨b, o + i * 5 + 1, none⟩ = some (.int .i64 N)
  c2 : w.cell? ⟨b, o + i * 5 + 2, none⟩ = some (.int .i64 A)
  c3 : w.cell? ⟨b, o + i * 5 + 3, none⟩ = some (.int .u32 (T : Int))
  c4 : w.cell? ⟨b, o + i * 5 + 4, none⟩ = some (.slice s sl sc)
  nums : Nums .u8 w s sl sc l
  bytes : ∀ x ∈ l, x < 256
  k64 : -9223372036854775808 ≤ K ∧ K ≤ 9223372036854775807
  n64 : -9223372036854775808 ≤ N ∧ N ≤ 9223372036854775807
  a64 : -9223372036854775808 ≤ A ∧ A ≤ 9223372036854775807
  t32 : T < 4294967296
theorem DoAt.below {w w' : World} {b o i : Nat} {K N A : Int} {T : Nat} {s : Option Addr} {sl sc : Nat} {l : List Nat} (h : DoAt w b o i K N A T s sl sc l) (hb : Below w.heap.size w w') : DoAt w' b o i K N A T s sl sc l :=
  ⟨kept hb h.c0, kept hb h.c1, kept hb h.c2, kept hb h.c3, kept hb h.c4, h.nums.below hb, h.bytes, h.k64, h.n64, h.a64, h.t32⟩
theorem do_at {H : Type} {enc : TypeId × Value → H} {w : World} {fs : Array Field} {a0 : Option Addr} {len0 cap0 : Nat} (h : Structs enc Tryd.prog w 0 (fun _ => true) true fs a0 len0 cap0)
    (hfs : fs.toList.map (·.type) = [3, 3, 3, 30, 28]) {i : Nat} (hi : i < len0) :
    ∃ b o, a0 = some ⟨b, o, none⟩ ∧ ∃ K N A T s sl sc l, DoAt w b o i K N A T s sl sc l := by
  rcases h with ⟨rfl, rfl, rfl⟩ | ⟨a, rfl, hb, hl, hm, hx⟩
  · omega
  have hsz : fs.size = 5 := by
    have := congrArg List.length hfs
    simpa using this
  have hf : ∀ (j : Nat) (t : TypeId), ([3, 3, 3, 30, 28] : List TypeId)[j]? = some t → ∃ f : Field, fs[j]? = some f ∧ f.type = t := by
    intro j t ht
    rw [← hfs, List.getElem?_map] at ht
    obtain ⟨f, hf, rfl⟩ := Option.map_eq_some_iff.1 ht
    exact ⟨f, by rw [← Array.getElem?_toList]; exact hf, rfl⟩
  obtain ⟨f0, g0, t0⟩ := hf 0 _ rfl
  obtain ⟨f1, g1, t1⟩ := hf 1 _ rfl
  obtain ⟨f2, g2, t2⟩ := hf 2 _ rfl
  obtain ⟨f3, g3, t3⟩ := hf 3 _ rfl
  obtain ⟨f4, g4, t4⟩ := hf 4 _ rfl
  have ex := hx i hi
  rw [hsz] at ex
  obtain ⟨x0, m0, y0, c0, d0⟩ := ex 0 f0 g0
  obtain ⟨x1, m1, y1, c1, d1⟩ := ex 1 f1 g1
  obtain ⟨x2, m2, y2, c2, d2⟩ := ex 2 f2 g2
  obtain ⟨x3, m3, y3, c3, d3⟩ := ex 3 f3 g3
  obtain ⟨x4, m4, y4, c4, d4⟩ := ex 4 f4 g4
  rw [t0] at d0
  rw [t1] at d1
  rw [t2] at d2
  rw [t3] at d3
  rw [t4] at d4
  obtain ⟨K, e0, _, k0⟩ := DataW.trod_int Tryd.underlying3 d0
  obtain ⟨N, e1, _, k1⟩ := DataW.trod_int Tryd.underlying3 d1
  obtain ⟨A, e2, _, k2⟩ := DataW.trod_int Tryd.underlying3 d2
  obtain ⟨T, e3, _, k3⟩ := DataW.trod_int Tryd.underlying30 d3
  cases e0; cases e1; cases e2; cases e3
  obtain ⟨b, o, spot⟩ := a
  have hs : spot = none := by
    have ez := hx 0 (by omega) 0 f0 g0
    obtain ⟨z0, _, _, cz, _⟩ := ez
    have := World.cell?_spot cz
    rw [Nat.zero_mul, Nat.zero_add] at this
    exact this
  subst hs
  simp only [Addr.add_lit] at c0 c1 c2 c3 c4
  have hT := nat_of (k := .u32) rfl k3
  refine ⟨b, o, rfl, K, N, A, T.toNat, ?_⟩
  have c3' : w.cell? ⟨b, o + i * 5 + 3, none⟩ = some (.int .u32 ((T.toNat : Nat) : Int)) := by
    rw [Int.toNat_of_nonneg hT.1]; exact c3
  rcases open_ints (k := .u8) Tryd.underlying28 Tryd.underlying5 (by kernel_rfl) d4 with ⟨e4, _⟩ | ⟨q, ln, cp, zs, e4, _, q1, q2, q3, _, q4, q5⟩
  · cases e4
    exact ⟨none, 0, 0, [], c0, c1, c2, c3', c4, Nums.nil _ _, by simp, int_of k0, int_of k1, int_of k2, hT.2⟩
  · cases e4
    obtain ⟨l, h1, h2⟩ := nums_of (k := .u8) rfl (w := w) (a := some q) (len := ln) (cap := cp) (zs := zs) (.inr ⟨q, rfl, q1, q2, by simpa using q3, q4, q5⟩)
    exact ⟨some q, ln, cp, l, c0, c1, c2, c3', c4, h1, h2, int_of k0, int_of k1, int_of k2, hT.2⟩
end Go.Proofs.YtagbnacffiagcaaDoor.Mem
