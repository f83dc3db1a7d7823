/- What a round over pieces meets. -/
import Derived.Test.YtdgcjdknicbaeaaSpanPlain
namespace Go.Proofs.Ytdgcjdknicbaeaa.spanAll
open Go

/-- what a round meets -/
theorem meets {L : List (Nat × Nat × Nat)} {k pos rem : Nat} (hd : L.drop k = Span.pcs pos rem) (hk : k < L.length) (h0 : 0 < k → 0 < rem → pos % 256 = 0) :
    ∃ I F T, L[k] = (I, F, T) ∧ I * 256 + F = pos ∧ F < T ∧ T ≤ 256 ∧ T - F ≤ rem ∧ (0 < k → F = 0) ∧ (k + 1 < L.length → T = 256) ∧ L.drop (k + 1) = Span.pcs (pos + (T - F)) (rem - (T - F)) ∧ (0 < rem - (T - F) → (pos + (T - F)) % 256 = 0) := by
  have hr : 0 < rem := by
    rcases Nat.eq_zero_or_pos rem with h | h
    · subst h
      rw [Span.pcs_zero] at hd
      have := congrArg List.length hd
      simp at this; omega
    · exact h
  rw [Span.pcs_step pos rem hr, List.drop_eq_getElem_cons hk] at hd
  have h1 := List.cons.inj hd
  refine ⟨_, _, _, h1.1, by omega, by omega, by omega, by omega, fun hk0 => h0 hk0 hr, ?_, ?_, by omega⟩
  · intro hlt
    have h2 : L.drop (k + 1) ≠ [] := by
      intro h
      have := congrArg List.length h
      simp at this; omega
    rw [h1.2] at h2
    have h3 : 0 < rem - min rem (256 - pos % 256) := by
      rcases Nat.eq_zero_or_pos (rem - min rem (256 - pos % 256)) with h | h
      · rw [h, Span.pcs_zero] at h2; exact absurd rfl h2
      · exact h
    omega
  · rw [h1.2]; congr 1 <;> omega
end Go.Proofs.Ytdgcjdknicbaeaa.spanAll
