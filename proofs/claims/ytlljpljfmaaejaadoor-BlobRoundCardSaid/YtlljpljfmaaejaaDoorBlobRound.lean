/- Plain facts: blocks put one behind the other, each dropped at once, all let go now and then. -/
import Derived.Test.YtlljpljfmaaejaaDoorBlobPlain
import Derived.Test.YtlljpljfmaaejaaDoorAreaMore
namespace Go.Proofs.YtlljpljfmaaejaaDoor.BlobW
open Go Go.RowKit Go.Maps Go.Proofs.YtlljpljfmaaejaaDoor.Mem Go.Proofs.YtlljpljfmaaejaaDoor.MapsW Go.Proofs.YtlljpljfmaaejaaDoor.DevG
set_option linter.unusedVariables false

/-- the i-th block's place -/
def rp (i : Nat) : Nat := 150 + i % 150
/-- the c blocks ahead of the i-th are held, none is in use -/
def rA (i c : Nat) : Ar := ⟨fun _ => false, fun x => (List.range c).any fun t => decide (x = ((rp (i - 1 - t) : Nat) : Int)), 0, c, if i = 0 then 299 else rp (i - 1)⟩
theorem rA_zero : rA 0 0 = Ar.none 300 := Ar.same (fun _ => rfl) (fun _ => rfl) rfl rfl rfl
theorem rA_free {i c : Nat} (hc : c ≤ 148) (hi : c ≤ i) : (rA i c).free ((rp i : Nat) : Int) = true := by
  unfold Ar.free rA
  simp only [Bool.not_false, Bool.true_and, Bool.not_eq_true', List.any_eq_false, List.mem_range, decide_eq_true_eq]
  intro t ht e
  unfold rp at e
  omega
theorem rA_next {i c : Nat} (hc : c ≤ 148) (hi : c ≤ i) : (rA i c).next 300 = some (rp i) := by
  refine next_zero (by decide) ?_ (rA_free hc hi)
  rw [spot_300]
  unfold rA rp
  simp only
  split
  · subst i; rfl
  · omega
theorem rA_round {i c : Nat} (hc : c ≤ 148) (hi : c ≤ i) : ((rA i c).put (rp i)).drop ((rp i : Nat) : Int) = rA (i + 1) (c + 1) := by
  have hf := rA_free hc hi
  unfold Ar.free at hf
  have hh : (rA i c).held ((rp i : Nat) : Int) = false := by
    revert hf
    cases (rA i c).held ((rp i : Nat) : Int) <;> simp
  refine Ar.same (fun x => ?_) (fun x => ?_) rfl ?_ ?_
  · show upd (upd (fun _ => false) ((rp i : Nat) : Int) true) ((rp i : Nat) : Int) false x = false
    rw [upd_eq, upd_eq]
    split <;> rfl
  · show upd (rA i c).held ((rp i : Nat) : Int) true x = (rA (i + 1) (c + 1)).held x
    rw [upd_eq]
    show _ = (List.range (c + 1)).any fun t => decide (x = ((rp (i + 1 - 1 - t) : Nat) : Int))
    rw [List.range_succ_eq_map, List.any_cons, List.any_map]
    have e0 : i + 1 - 1 - 0 = i := by omega
    rw [e0]
    by_cases h : x = ((rp i : Nat) : Int)
    · rw [if_pos h, decide_eq_true h, Bool.true_or]
    · rw [if_neg h, decide_eq_false h, Bool.false_or]
      show (List.range c).any _ = (List.range c).any _
      congr 1
      funext t
      show decide (x = ((rp (i - 1 - t) : Nat) : Int)) = decide (x = ((rp (i + 1 - 1 - (t + 1)) : Nat) : Int))
      rw [show i + 1 - 1 - (t + 1) = i - 1 - t by omega]
  · show (if (rA i c).held ((rp i : Nat) : Int) then c else c + 1) = c + 1
    rw [hh]; rfl
  · show rp i = if i + 1 = 0 then 299 else rp (i + 1 - 1)
    rw [if_neg (by omega), Nat.add_sub_cancel]
theorem rA_done (i c : Nat) : { rA i c with held := fun _ => false, nh := 0 } = rA i 0 := Ar.same (fun _ => rfl) (fun _ => rfl) rfl rfl rfl
theorem rA_used {i c : Nat} : ((rA i c).put (rp i)).used ((rp i : Nat) : Int) = true := by
  show upd (fun _ => false) ((rp i : Nat) : Int) true ((rp i : Nat) : Int) = true
  rw [upd_same]
theorem rA_last (i c : Nat) : 150 ≤ (rA i c).last ∧ (rA i c).last < 300 := by
  unfold rA rp
  simp only
  split <;> omega
theorem rp_in (i : Nat) : 150 ≤ rp i ∧ rp i < 300 := by unfold rp; omega
end Go.Proofs.YtlljpljfmaaejaaDoor.BlobW
