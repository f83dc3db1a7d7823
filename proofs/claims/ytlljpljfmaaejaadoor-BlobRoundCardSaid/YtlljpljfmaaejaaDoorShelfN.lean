/- One more of the library's contracts at this program, in plain words: laid by the kit's own tool. -/
import Derived.Shelf.SlIterI.Nil
import Derived.Test.YtlljpljfmaaejaaDoorProg
namespace Go.Proofs
open Go.Shelf
def Tryd.keysN_ren : Go.Shelf.Ren := ⟨fun | 7 => 97 | 10 => 120 | n => n, fun | 23 => 130 | 26 => 3 | 3 => 3 | 28 => 120 | 0 => 0 | 27 => 119 | 33 => 36 | 4 => 4 | n => n, fun | n => n⟩
theorem Tryd.keysN : Go.Proofs.SlLaysZI.n7 Tryd.prog Tryd.keysN_ren := {
  mixed := by kernel_rfl
  f7 := ⟨Tryd.f97.name, by decide, Tryd.func97.trans (congrArg some (by kernel_rfl))⟩
  f10 := ⟨Tryd.f120.name, by decide, Tryd.func120.trans (congrArg some (by kernel_rfl))⟩
  t0 := Tryd.underlying0
  a0 := Tryd.isAgg0
  z0 := Tryd.sizeOf0
  v0 := Tryd.zeroValue0
  t4 := Tryd.underlying4
  a4 := Tryd.isAgg4
  z4 := Tryd.sizeOf4
  v4 := Tryd.zeroValue4
  t23 := Tryd.underlying130
  a23 := Tryd.isAgg130
  z23 := Tryd.sizeOf130
  v23 := Tryd.zeroValue130
  t26 := Tryd.underlying3
  a26 := Tryd.isAgg3
  z26 := Tryd.sizeOf3
  v26 := Tryd.zeroValue3
  t27 := Tryd.underlying119
  a27 := Tryd.isAgg119
  z27 := Tryd.sizeOf119
  v27 := Tryd.zeroValue119
  t28 := Tryd.underlying120
  a28 := Tryd.isAgg120
  z28 := Tryd.sizeOf120
  v28 := Tryd.zeroValue120
  t33 := Tryd.underlying36
  a33 := Tryd.isAgg36
  z33 := Tryd.sizeOf36
  v33 := Tryd.zeroValue36 }
end Go.Proofs
