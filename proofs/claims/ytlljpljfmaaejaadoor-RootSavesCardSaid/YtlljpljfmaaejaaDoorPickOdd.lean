/- odd -/
import Derived.Test.YtlljpljfmaaejaaDoorDevCrash
namespace Go.Proofs.YtlljpljfmaaejaaDoor.DevG
open Go Go.RowKit
theorem pick_odd (z : Int) : (bits .and .i64 z 1 == 1) = (z.tmod 2 != 0) := by
  have e : bits .and .i64 z 1 = z % 2 := by
    show IntKind.i64.wrap ((BitVec.ofInt 64 z &&& BitVec.ofInt 64 1).toNat : Int) = _
    have h1 : (BitVec.ofInt 64 1).toNat = 1 := by decide
    rw [BitVec.toNat_and, h1, Nat.and_one_is_mod, BitVec.toNat_ofInt, IntKind.wrap_i64]
    omega
  rw [e, Bool.eq_iff_iff, beq_iff_eq, bne_iff_ne]
  have := Int.tmod_eq_emod (a := z) (b := 2)
  rw [this]
  split <;> omega
end Go.Proofs.YtlljpljfmaaejaaDoor.DevG
