/- Forms in bytes that are cut off somewhere. -/
import Derived.Test.YtdgbgdkfoeoppaaDoorWireRowsA
namespace Go.Proofs.YtdgbgdkfoeoppaaDoor.Wire
open Go Go.RowKit Go.Proofs.YtdgbgdkfoeoppaaDoor.Mem Go.Proofs.YtdgbgdkfoeoppaaDoor.RefW Go.Proofs.YtdgbgdkfoeoppaaDoor.Text
set_option linter.unusedVariables false
set_option maxRecDepth 100000

theorem dec_fits {X R : List Nat} {z p k : Nat} (h : X.drop p = enc z ++ R) (hz : z < 18446744073709551616) (hk : p + (enc z).length ≤ k) :
    dec 0 0 ((X.take k).drop p) = .num z (enc z).length := by
  rw [List.drop_take, h, List.take_append, List.take_of_length_le (by omega), dec_enc z 0 0 _ (.inl rfl) (by simpa using hz) (by decide)]
  simp
theorem dec_cuts {X R : List Nat} {z p k : Nat} (h : X.drop p = enc z ++ R) (hz : z < 18446744073709551616) (hp : p ≤ k) (hk : k < p + (enc z).length) :
    dec 0 0 ((X.take k).drop p) = .ends := by
  rw [List.drop_take, h, List.take_append_of_le_length (by omega)]
  exact dec_cut z 0 0 (k - p) (by omega) (by simpa using hz) (by decide)
theorem drop_at (zs : List Int) (t : List Nat) (j : Nat) (h : j < zs.length) : (encAll zs ++ t).drop (encAll (zs.take j)).length = enc (zig zs[j]) ++ (encAll (zs.drop (j + 1)) ++ t) := by
  rw [encAll_split zs j, List.append_assoc, List.drop_left, List.drop_eq_getElem_cons h, encAll, List.append_assoc]
end Go.Proofs.YtdgbgdkfoeoppaaDoor.Wire
