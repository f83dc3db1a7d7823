/- Plain facts about bytes and blocks (chapter 13). No program stands here. -/
namespace Go.Proofs.Ytdgcjdknicbaeaa.Span

/-- pieces of n bytes from a place on; f: as many steps as may be -/
def pcsF : Nat → Nat → Nat → List (Nat × Nat × Nat)
  | 0, _, _ => []
  | f + 1, p, n => if n = 0 then [] else (p / 256, p % 256, p % 256 + min n (256 - p % 256)) :: pcsF f (p + min n (256 - p % 256)) (n - min n (256 - p % 256))
def pcs (p n : Nat) : List (Nat × Nat × Nat) := pcsF n p n

theorem pcsF_fuel (f : Nat) : ∀ g p n, n ≤ f → n ≤ g → pcsF f p n = pcsF g p n := by
  induction f with
  | zero =>
    intro g p n hf hg
    obtain rfl : n = 0 := by omega
    cases g <;> simp [pcsF]
  | succ f ih =>
    intro g p n hf hg
    cases g with
    | zero => obtain rfl : n = 0 := by omega
              simp [pcsF]
    | succ g =>
      simp only [pcsF]
      by_cases h : n = 0
      · rw [if_pos h, if_pos h]
      · rw [if_neg h, if_neg h]
        have hm : 0 < min n (256 - p % 256) := by omega
        rw [ih g _ _ (by omega) (by omega)]
theorem pcs_zero (p : Nat) : pcs p 0 = [] := rfl
theorem pcs_step (p n : Nat) (h : 0 < n) :
    pcs p n = (p / 256, p % 256, p % 256 + min n (256 - p % 256)) :: pcs (p + min n (256 - p % 256)) (n - min n (256 - p % 256)) := by
  unfold pcs
  obtain ⟨k, rfl⟩ : ∃ k, n = k + 1 := ⟨n - 1, by omega⟩
  have hm : 0 < min (k + 1) (256 - p % 256) := by omega
  rw [pcsF, if_neg (by omega), pcsF_fuel k (k + 1 - min (k + 1) (256 - p % 256)) _ _ (by omega) (by omega)]
theorem pcs_nil {p n : Nat} (h : pcs p n = []) : n = 0 := by
  rcases Nat.eq_zero_or_pos n with h0 | h0
  · exact h0
  · rw [pcs_step p n h0] at h; simp at h
theorem pcs_length (n : Nat) : ∀ p, (pcs p n).length ≤ n := by
  induction n using Nat.strongRecOn with
  | _ n ih =>
    intro p
    rcases Nat.eq_zero_or_pos n with h0 | h0
    · subst h0; simp [pcs_zero]
    · rw [pcs_step p n h0]
      have hm : 0 < min n (256 - p % 256) := by omega
      have := ih (n - min n (256 - p % 256)) (by omega) (p + min n (256 - p % 256))
      simp only [List.length_cons]; omega

/-- how many bytes of a block a file of a size has -/
def has (i n : Nat) : Nat := if n / 256 < i then 0 else if i = n / 256 then n % 256 else 256
/-- how many blocks -/
def blocks (n : Nat) : Nat := if n = 0 then 0 else (n - 1) / 256 + 1
theorem blocks_holds (n : Nat) : n ≤ blocks n * 256 := by unfold blocks; split <;> omega
theorem blocks_fewer (n : Nat) (h : 0 < blocks n) : (blocks n - 1) * 256 < n := by unfold blocks at *; split at h <;> (try omega); rename_i h0; rw [if_neg h0]; omega
theorem has_last (n : Nat) (h : 0 < n) : has (blocks n - 1) n = n - (blocks n - 1) * 256 := by
  have e : blocks n - 1 = (n - 1) / 256 := by unfold blocks; rw [if_neg (by omega)]; omega
  rw [e]
  unfold has
  rw [if_neg (by omega)]
  by_cases h1 : (n - 1) / 256 = n / 256
  · rw [if_pos h1]; omega
  · rw [if_neg h1]; omega
theorem blocks_le (n : Nat) : blocks n ≤ n := by unfold blocks; split <;> omega
end Go.Proofs.Ytdgcjdknicbaeaa.Span
