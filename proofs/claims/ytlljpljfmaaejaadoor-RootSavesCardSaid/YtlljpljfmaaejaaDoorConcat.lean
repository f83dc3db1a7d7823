/- slices.Grow of nothing, slices.Concat of two slices: bytes, ints. -/
import Derived.Test.YtlljpljfmaaejaaDoorRefWalk
import Derived.Lib.AppendZeros
import Derived.BigQuiet
namespace Go.Proofs.YtlljpljfmaaejaaDoor.ConcatW
open Go Go.RowKit Go.Proofs.YtlljpljfmaaejaaDoor.Mem
set_option linter.unusedVariables false
set_option maxRecDepth 100000

theorem elInt : El Tryd.prog 42 3 (.int .i64 0) 1 8 := ⟨Tryd.underlying42, by kernel_rfl, rfl, by decide⟩

set_option maxHeartbeats 1600000 in
/-- room for n, of nothing -/
theorem growB (n : Nat) (w : World) (h0 : 0 < n) (hn : n ≤ 1000000) :
    Calls Tryd.prog 127 #[.slice none 0 0, .int .i64 n] w fun e w' => (∃ cap, e = .returned (.slice (some ⟨w.heap.size, 0, none⟩) 0 cap) ∧ w'.ownsRow w.heap.size 5 1 (.slice (some ⟨w.heap.size, 0, none⟩) 0 cap) 0 [] ∧ n ≤ cap ∧ cap ≤ maxLen) ∧ Below w.heap.size w w' := by
  obtain ⟨i, hi, hz0, hz1, hz2⟩ := info_parts RefW.elU8.hi
  have hz := Lib.run_append_nil_zeros (P := Tryd.prog) w 30 3 30 5 i _ .i64 .i64 Tryd.underlying30 Tryd.underlying3 hi hz0 n h0 (by omega) (by omega) (by rw [hz2]; omega)
  have g1 := grownCap_ge w n 0 5
  have g2 := grownCap_le_maxLen w n 0 5 (by unfold maxLen; omega)
  generalize hG : grownCap w n 0 5 = G at hz g1 g2
  have g3 : G ≤ 9223372036854775807 := by unfold maxLen at g2; omega
  have hsz : (Builtin.zeroCells (Value.int .u8 0).cells n ++ Builtin.zeroCells (Value.int .u8 0).cells (G - n)).size = G * 1 := by
    simp [Builtin.zeroCells, Value.cells]; omega
  clear hG
  generalize Builtin.zeroCells (Value.int .u8 0).cells n ++ Builtin.zeroCells (Value.int .u8 0).cells (G - n) = cs at hz hsz
  have hp : decide ((0 : Int) < n) = true := decide_eq_true (by omega)
  go_enter Tryd.func127, Tryd.ntmps127
  go_wp2_with (at_builtin; go_must (refine Lib.wpList_append_run _ rfl _ _ _ _ rfl _ _ rfl rfl _ _ hz ?_))
  go_ret
  refine ⟨⟨G, rfl, ?_, g1, g2⟩, (Below.refl _ _).drew.alloc (by simp) _⟩
  exact World.ownsRow_made (base := w.heap.size) (e := 5) (size := 1) w.drew cs G (by simp) g2 hsz

set_option maxHeartbeats 3200000 in
/-- two slices, one behind the other -/
theorem concatB (g : Nat) (a1 a2 : Option Addr) (n1 c1 n2 c2 : Nat) (xs ys : List Value) (w : World) (h1 : Row w 1 a1 n1 c1 xs) (h2 : Row w 1 a2 n2 c2 ys) (o1 : ∀ u ∈ xs, u.oneCell' = true) (o2 : ∀ u ∈ ys, u.oneCell' = true)
    (s0 : w.cell? ⟨g, 0, none⟩ = some (.slice a1 n1 c1)) (s1 : w.cell? ⟨g, 1, none⟩ = some (.slice a2 n2 c2)) (hp : 0 < n1 + n2) (k1 : n1 ≤ 100000) (k2 : n2 ≤ 100000) :
    Calls Tryd.prog 113 #[.slice (some ⟨g, 0, none⟩) 2 2] w fun e w' => (∃ v, e = .returned v ∧ w'.ownsRow w.heap.size 5 1 v (n1 + n2) (xs ++ ys)) ∧ Below w.heap.size w w' := by
  have q1 := h1.2.1
  have q2 := h2.2.1
  have q3 := h1.2.2.1
  have q4 := h2.2.2.1
  have d1 : decide ((n1 : Int) < 0) = false := decide_eq_false (by omega)
  have d2 : decide ((n1 : Int) + n2 < 0) = false := decide_eq_false (by omega)
  unfold maxLen at q3 q4
  go_enter Tryd.func113, Tryd.ntmps113
  go_wp2
  go_loop [3, 11] (fun s i => (i = .int .i64 0 ∧ s = .int .i64 0) ∨ (i = .int .i64 1 ∧ s = .int .i64 n1) ∨ (i = .int .i64 2 ∧ s = .int .i64 ((n1 + n2 : Nat) : Int))) (fun _ i => 2 - (intOf i).toNat)
  case atStart => exact .inl ⟨rfl, rfl⟩
  case round =>
    rcases hrel with ⟨rfl, rfl⟩ | ⟨rfl, rfl⟩ | ⟨rfl, rfl⟩
    · go_wp2
      go_round
      case rel => exact .inr (.inl ⟨by go_num, by go_num⟩)
      case measure => simp [intOf]
    · go_wp2
      go_round
      case rel => exact .inr (.inr ⟨by go_num, by go_num⟩)
      case measure => simp [intOf]
    · go_wp2_with fail
      refine (growB (n1 + n2) _ hp (by omega)).mono ?_
      rintro e w1 ⟨⟨G, rfl, own1, hG1, hG2⟩, hb1⟩
      have z1 := hb1.size
      clear d1 d2
      go_wp2_with fail
      go_loopw [6, 27] (fun v i wr => (i = .int .i64 0 ∧ wr.ownsRow w.heap.size 5 1 v 0 [] ∨ i = .int .i64 1 ∧ wr.ownsRow w.heap.size 5 1 v n1 xs ∨ i = .int .i64 2 ∧ wr.ownsRow w.heap.size 5 1 v (n1 + n2) (xs ++ ys)) ∧ Below w.heap.size w wr) (fun _ i _ => 2 - (intOf i).toNat)
      case atStart => exact ⟨.inl ⟨rfl, own1⟩, hb1⟩
      case round =>
        clear own1 hb1
        obtain ⟨hc, hb⟩ := hrel
        have zz := hb.size
        replace h1 := h1.below hb
        replace h2 := h2.below hb
        replace s0 := kept hb s0
        replace s1 := kept hb s1
        rcases hc with ⟨rfl, own⟩ | ⟨rfl, own⟩ | ⟨rfl, own⟩
        · go_wp2_with (at_builtin; go_must (refine wpList_app RefW.elU8 rfl _ _ rfl w.heap.size _ 0 [] rfl own a1 n1 c1 xs rfl h1 o1 (by unfold maxLen; omega) (by omega) zz ?_); intro v' w2 own2 hb2 _)
          go_roundw
          case rel => exact ⟨.inr (.inl ⟨by go_num, by simpa using own2⟩), hb.trans hb2⟩
          case measure => simp [intOf]
        · go_wp2_with (at_builtin; go_must (refine wpList_app RefW.elU8 rfl _ _ rfl w.heap.size _ n1 xs rfl own a2 n2 c2 ys rfl h2 o2 (by unfold maxLen; omega) (by omega) zz ?_); intro v' w2 own2 hb2 _)
          go_roundw
          case rel => exact ⟨.inr (.inr ⟨by go_num, own2⟩), hb.trans hb2⟩
          case measure => simp [intOf]
        · go_wp2
          go_ret
          exact ⟨⟨_, rfl, own⟩, hb⟩

set_option maxHeartbeats 1600000 in
/-- room for n, of nothing -/
theorem growI (n : Nat) (w : World) (h0 : 0 < n) (hn : n ≤ 1000000) :
    Calls Tryd.prog 134 #[.slice none 0 0, .int .i64 n] w fun e w' => (∃ cap, e = .returned (.slice (some ⟨w.heap.size, 0, none⟩) 0 cap) ∧ w'.ownsRow w.heap.size 3 1 (.slice (some ⟨w.heap.size, 0, none⟩) 0 cap) 0 [] ∧ n ≤ cap ∧ cap ≤ maxLen) ∧ Below w.heap.size w w' := by
  obtain ⟨i, hi, hz0, hz1, hz2⟩ := info_parts elInt.hi
  have hz := Lib.run_append_nil_zeros (P := Tryd.prog) w 42 3 42 3 i _ .i64 .i64 Tryd.underlying42 Tryd.underlying3 hi hz0 n h0 (by omega) (by omega) (by rw [hz2]; omega)
  have g1 := grownCap_ge w n 0 3
  have g2 := grownCap_le_maxLen w n 0 3 (by unfold maxLen; omega)
  generalize hG : grownCap w n 0 3 = G at hz g1 g2
  have g3 : G ≤ 9223372036854775807 := by unfold maxLen at g2; omega
  have hsz : (Builtin.zeroCells (Value.int .i64 0).cells n ++ Builtin.zeroCells (Value.int .i64 0).cells (G - n)).size = G * 1 := by
    simp [Builtin.zeroCells, Value.cells]; omega
  clear hG
  generalize Builtin.zeroCells (Value.int .i64 0).cells n ++ Builtin.zeroCells (Value.int .i64 0).cells (G - n) = cs at hz hsz
  have hp : decide ((0 : Int) < n) = true := decide_eq_true (by omega)
  go_enter Tryd.func134, Tryd.ntmps134
  go_wp2_with (at_builtin; go_must (refine Lib.wpList_append_run _ rfl _ _ _ _ rfl _ _ rfl rfl _ _ hz ?_))
  go_ret
  refine ⟨⟨G, rfl, ?_, g1, g2⟩, (Below.refl _ _).drew.alloc (by simp) _⟩
  exact World.ownsRow_made (base := w.heap.size) (e := 3) (size := 1) w.drew cs G (by simp) g2 hsz

set_option maxHeartbeats 3200000 in
/-- two slices, one behind the other -/
theorem concatI (g : Nat) (a1 a2 : Option Addr) (n1 c1 n2 c2 : Nat) (xs ys : List Value) (w : World) (h1 : Row w 1 a1 n1 c1 xs) (h2 : Row w 1 a2 n2 c2 ys) (o1 : ∀ u ∈ xs, u.oneCell' = true) (o2 : ∀ u ∈ ys, u.oneCell' = true)
    (s0 : w.cell? ⟨g, 0, none⟩ = some (.slice a1 n1 c1)) (s1 : w.cell? ⟨g, 1, none⟩ = some (.slice a2 n2 c2)) (hp : 0 < n1 + n2) (k1 : n1 ≤ 100000) (k2 : n2 ≤ 100000) :
    Calls Tryd.prog 122 #[.slice (some ⟨g, 0, none⟩) 2 2] w fun e w' => (∃ v, e = .returned v ∧ w'.ownsRow w.heap.size 3 1 v (n1 + n2) (xs ++ ys)) ∧ Below w.heap.size w w' := by
  have q1 := h1.2.1
  have q2 := h2.2.1
  have q3 := h1.2.2.1
  have q4 := h2.2.2.1
  have d1 : decide ((n1 : Int) < 0) = false := decide_eq_false (by omega)
  have d2 : decide ((n1 : Int) + n2 < 0) = false := decide_eq_false (by omega)
  unfold maxLen at q3 q4
  go_enter Tryd.func122, Tryd.ntmps122
  go_wp2
  go_loop [3, 11] (fun s i => (i = .int .i64 0 ∧ s = .int .i64 0) ∨ (i = .int .i64 1 ∧ s = .int .i64 n1) ∨ (i = .int .i64 2 ∧ s = .int .i64 ((n1 + n2 : Nat) : Int))) (fun _ i => 2 - (intOf i).toNat)
  case atStart => exact .inl ⟨rfl, rfl⟩
  case round =>
    rcases hrel with ⟨rfl, rfl⟩ | ⟨rfl, rfl⟩ | ⟨rfl, rfl⟩
    · go_wp2
      go_round
      case rel => exact .inr (.inl ⟨by go_num, by go_num⟩)
      case measure => simp [intOf]
    · go_wp2
      go_round
      case rel => exact .inr (.inr ⟨by go_num, by go_num⟩)
      case measure => simp [intOf]
    · go_wp2_with fail
      refine (growI (n1 + n2) _ hp (by omega)).mono ?_
      rintro e w1 ⟨⟨G, rfl, own1, hG1, hG2⟩, hb1⟩
      have z1 := hb1.size
      clear d1 d2
      go_wp2_with fail
      go_loopw [6, 27] (fun v i wr => (i = .int .i64 0 ∧ wr.ownsRow w.heap.size 3 1 v 0 [] ∨ i = .int .i64 1 ∧ wr.ownsRow w.heap.size 3 1 v n1 xs ∨ i = .int .i64 2 ∧ wr.ownsRow w.heap.size 3 1 v (n1 + n2) (xs ++ ys)) ∧ Below w.heap.size w wr) (fun _ i _ => 2 - (intOf i).toNat)
      case atStart => exact ⟨.inl ⟨rfl, own1⟩, hb1⟩
      case round =>
        clear own1 hb1
        obtain ⟨hc, hb⟩ := hrel
        have zz := hb.size
        replace h1 := h1.below hb
        replace h2 := h2.below hb
        replace s0 := kept hb s0
        replace s1 := kept hb s1
        rcases hc with ⟨rfl, own⟩ | ⟨rfl, own⟩ | ⟨rfl, own⟩
        · go_wp2_with (at_builtin; go_must (refine wpList_app elInt rfl _ _ rfl w.heap.size _ 0 [] rfl own a1 n1 c1 xs rfl h1 o1 (by unfold maxLen; omega) (by omega) zz ?_); intro v' w2 own2 hb2 _)
          go_roundw
          case rel => exact ⟨.inr (.inl ⟨by go_num, by simpa using own2⟩), hb.trans hb2⟩
          case measure => simp [intOf]
        · go_wp2_with (at_builtin; go_must (refine wpList_app elInt rfl _ _ rfl w.heap.size _ n1 xs rfl own a2 n2 c2 ys rfl h2 o2 (by unfold maxLen; omega) (by omega) zz ?_); intro v' w2 own2 hb2 _)
          go_roundw
          case rel => exact ⟨.inr (.inr ⟨by go_num, own2⟩), hb.trans hb2⟩
          case measure => simp [intOf]
        · go_wp2
          go_ret
          exact ⟨⟨_, rfl, own⟩, hb⟩
end Go.Proofs.YtlljpljfmaaejaaDoor.ConcatW
