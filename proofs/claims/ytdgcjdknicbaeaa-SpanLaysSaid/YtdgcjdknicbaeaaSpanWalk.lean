/- The walks of package span. -/
import Derived.Test.YtdgcjdknicbaeaaProg
import Derived.Test.YtdgcjdknicbaeaaMem
import Derived.Test.YtdgcjdknicbaeaaSpanPlain
import Derived.Deep.DeepMust
import Derived.Deep.QuietTactic
import Derived.BigQuiet
namespace Go.Proofs.Ytdgcjdknicbaeaa.SpanW
open Go Go.RowKit Go.Proofs.Ytdgcjdknicbaeaa.Mem
set_option linter.unusedVariables false
set_option maxRecDepth 100000

theorem elPiece : El Try.prog 25 28 (.agg #[.int .i64 0, .int .i64 0, .int .i64 0]) 3 24 := ⟨Try.underlying25, by kernel_rfl, rfl, by decide⟩

/-- pieces as cells -/
def flat (l : List (Nat × Nat × Nat)) : List Value := l.flatMap fun x => [.int .i64 (x.1 : Int), .int .i64 (x.2.1 : Int), .int .i64 (x.2.2 : Int)]
theorem flat_length (l : List (Nat × Nat × Nat)) : (flat l).length = l.length * 3 := by
  induction l with
  | nil => rfl
  | cons x l ih => simp only [flat, List.flatMap_cons, List.length_append] at *; simp at *; omega
theorem flat_snoc (l : List (Nat × Nat × Nat)) (x : Nat × Nat × Nat) : flat (l ++ [x]) = flat l ++ [.int .i64 (x.1 : Int), .int .i64 (x.2.1 : Int), .int .i64 (x.2.2 : Int)] := by
  simp [flat]
theorem flat_get (l : List (Nat × Nat × Nat)) : ∀ (j : Nat) (h : j < l.length), (flat l)[j * 3]? = some (.int .i64 ((l[j]).1 : Int)) ∧ (flat l)[j * 3 + 1]? = some (.int .i64 ((l[j]).2.1 : Int)) ∧ (flat l)[j * 3 + 2]? = some (.int .i64 ((l[j]).2.2 : Int)) := by
  induction l with
  | nil => intro j h; simp at h
  | cons x l ih =>
    intro j h
    have e : flat (x :: l) = [.int .i64 (x.1 : Int), .int .i64 (x.2.1 : Int), .int .i64 (x.2.2 : Int)] ++ flat l := by simp [flat]
    cases j with
    | zero => rw [e]; simp
    | succ j =>
      have := ih j (by simpa using h)
      rw [e]
      refine ⟨?_, ?_, ?_⟩
      · rw [List.getElem?_append_right (by simp; omega)]
        simp only [List.length_cons, List.length_nil, List.getElem_cons_succ]
        rw [show (j + 1) * 3 - (0 + 1 + 1 + 1) = j * 3 by omega]; exact this.1
      · rw [List.getElem?_append_right (by simp; omega)]
        simp only [List.length_cons, List.length_nil, List.getElem_cons_succ]
        rw [show (j + 1) * 3 + 1 - (0 + 1 + 1 + 1) = j * 3 + 1 by omega]; exact this.2.1
      · rw [List.getElem?_append_right (by simp; omega)]
        simp only [List.length_cons, List.length_nil, List.getElem_cons_succ]
        rw [show (j + 1) * 3 + 2 - (0 + 1 + 1 + 1) = j * 3 + 2 by omega]; exact this.2.2
theorem flat_one (l : List (Nat × Nat × Nat)) : ∀ u ∈ flat l, u.oneCell' = true := by
  intro u hu
  simp only [flat, List.mem_flatMap] at hu
  obtain ⟨x, _, hx⟩ := hu
  simp at hx
  rcases hx with rfl | rfl | rfl <;> rfl

set_option maxHeartbeats 1600000 in
theorem pieces_w (p n : Nat) (w : World) (hp : p ≤ 1099511627776) (hn : n ≤ 1048576) :
    Calls Try.prog 6 #[.int .i64 p, .int .i64 n] w fun e w' => ∃ v, e = .returned v ∧ w'.ownsRow w.heap.size 28 3 v (Span.pcs p n).length (flat (Span.pcs p n)) ∧ Below w.heap.size w w' := by
  by_cases h0 : n = 0
  · subst h0
    go_enter Try.func6, Try.ntmps6
    go_wp2
    go_ret
    exact ⟨_, rfl, World.ownsRow_nil _ _ _ _, Below.refl _ _⟩
  · go_enter Try.func6, Try.ntmps6
    go_wp2
    go_loopw [0, 1, 5] (fun a b v wr => ∃ (q m : Nat) (d : List (Nat × Nat × Nat)), a = .int .i64 q ∧ b = .int .i64 m ∧ q + m = p + n ∧ m ≤ n ∧ Span.pcs p n = d ++ Span.pcs q m ∧ d.length + m ≤ n ∧ wr.ownsRow w.heap.size 28 3 v d.length (flat d) ∧ Below w.heap.size w wr) (fun _ b _ _ => (intOf b).toNat)
    case atStart => exact ⟨p, n, [], rfl, rfl, rfl, Nat.le_refl _, rfl, by simp, World.ownsRow_nil _ _ _ _, Below.refl _ _⟩
    case round =>
      obtain ⟨q, m, d, rfl, rfl, hs, hmn, hd, hdl, hown, hb⟩ := hrel
      have HD := hid hd
      clear hd
      by_cases hm : 0 < m
      · have HS := hid (Span.pcs_step q m hm)
        have hz := hb.size
        by_cases hc : m ≤ 256 - q % 256
        · rw [Nat.min_eq_left hc] at HS
          go_wp2_with (at_builtin; go_must (refine wpList_app elPiece rfl _ _ rfl w.heap.size u5 d.length _ rfl (hown.alloc _) _ 1 1 _ rfl (Row.fresh3 _ _ _ _ _) (oneCell3 rfl rfl rfl) (by unfold maxLen; omega) (by omega) (by simp; omega) ?_); intro v1 w1 own1 hb1 _)
          go_roundw
          case rel =>
            refine ⟨q + m, 0, d ++ [(q / 256, q % 256, q % 256 + m)], by go_num, rfl, by omega, by omega, ?_, by simp; omega, ?_, (hb.alloc hz _).trans hb1⟩
            · rw [HD.out, HS.out, Nat.sub_self, List.append_assoc]; rfl
            · rw [flat_snoc, List.length_append]
              exact own1
          case measure => simp [intOf]; omega
        · rw [Nat.min_eq_right (by omega)] at HS
          go_wp2_with (at_builtin; go_must (refine wpList_app elPiece rfl _ _ rfl w.heap.size u5 d.length _ rfl (hown.alloc _) _ 1 1 _ rfl (Row.fresh3 _ _ _ _ _) (oneCell3 rfl rfl rfl) (by unfold maxLen; omega) (by omega) (by simp; omega) ?_); intro v1 w1 own1 hb1 _)
          go_roundw
          case rel =>
            refine ⟨q + (256 - q % 256), m - (256 - q % 256), d ++ [(q / 256, q % 256, q % 256 + (256 - q % 256))], congrArg (Value.int .i64) (by omega), congrArg (Value.int .i64) (by omega), by omega, by omega, ?_, by simp; omega, ?_, (hb.alloc hz _).trans hb1⟩
            · rw [HD.out, HS.out, List.append_assoc]; rfl
            · rw [flat_snoc, List.length_append]
              have e1 : ((q / 256 : Nat) : Int) = (q : Int) / 256 := by omega
              have e2 : ((q % 256 : Nat) : Int) = (q : Int) % 256 := by omega
              have e3 : ((q % 256 + (256 - q % 256) : Nat) : Int) = (q : Int) % 256 + (256 - (q : Int) % 256) := by omega
              rw [e1, e2, e3]
              exact own1
          case measure => simp [intOf]; omega
      · obtain rfl : m = 0 := by omega
        rw [Span.pcs_zero, List.append_nil] at HD
        go_wp2
        go_ret
        exact ⟨_, rfl, by rw [HD.out]; exact hown, hb⟩

theorem pieces_neg (p n : Int) (w : World) (hp : p < 0) (h1 : -9223372036854775808 ≤ p) (h2 : -9223372036854775808 ≤ n) (h3 : n ≤ 9223372036854775807) :
    Calls Try.prog 6 #[.int .i64 p, .int .i64 n] w fun e w' => e = .returned (.slice none 0 0) ∧ w = w' := by
  go_enter Try.func6, Try.ntmps6
  go_wp2
  go_ret
  exact ⟨rfl, rfl⟩
end Go.Proofs.Ytdgcjdknicbaeaa.SpanW
