/- The chapter's example (13). -/
import Derived.Test.YtdgcjdknicbaeaaSpanWalk
namespace Go.Proofs.Ytdgcjdknicbaeaa.SpanW
open Go Go.RowKit Go.Proofs.Ytdgcjdknicbaeaa.Mem
set_option linter.unusedVariables false
set_option maxRecDepth 100000

/-- an element's three cells -/
theorem piece_at {w : World} {base g n cap : Nat} {l : List (Nat × Nat × Nat)} (h : w.ownsRow base 28 3 (.slice (some ⟨g, 0, none⟩) n cap) l.length (flat l)) {j : Nat} (hj : j < l.length) :
    w.cell? ⟨g, j * 3, none⟩ = some (.int .i64 ((l[j]).1 : Int)) ∧ w.cell? ⟨g, j * 3 + 1, none⟩ = some (.int .i64 ((l[j]).2.1 : Int)) ∧ w.cell? ⟨g, j * 3 + 2, none⟩ = some (.int .i64 ((l[j]).2.2 : Int)) := by
  obtain ⟨rfl, hr⟩ := Row.owned h
  have hf := flat_get l j hj
  have h0 := hr.cell hf.1
  have h1 := hr.cell hf.2.1
  have h2 := hr.cell hf.2.2
  rw [Nat.zero_add] at h0 h1 h2
  exact ⟨h0, h1, h2⟩

set_option maxHeartbeats 800000 in
theorem first_w (w : World) : Calls Try.prog 4 #[] w fun e w' => e = .returned (.bool true) ∧ Below w.heap.size w w' := by
  go_enter Try.func4, Try.ntmps4
  go_wp2_with fail
  refine (pieces_w 250 10 _ (by omega) (by omega)).mono ?_
  rintro e w1 ⟨v1, rfl, own1, hb1⟩
  rw [show Span.pcs 250 10 = [(0, 250, 256), (1, 0, 4)] by decide] at own1
  obtain ⟨a, c, rfl, _⟩ := ownsRow_slice own1
  obtain ⟨g, rfl⟩ := own_some own1 (by decide)
  have p0 := piece_at own1 (j := 0) (by decide)
  have p1 := piece_at own1 (j := 1) (by decide)
  simp at p0 p1
  obtain ⟨c0, c1, c2⟩ := p0
  obtain ⟨c3, c4, c5⟩ := p1
  have hc := own1.2
  clear own1 hc
  simp only [List.length_cons, List.length_nil, Nat.zero_add, Nat.reduceAdd]
  go_wp2
  go_ret
  exact ⟨rfl, hb1⟩
end Go.Proofs.Ytdgcjdknicbaeaa.SpanW
