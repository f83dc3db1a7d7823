/- One more of the library's contracts at this program, in plain words: laid by the kit's own tool. -/
import Derived.Shelf.SlIterI.Nil
import Derived.Test.YtbjfgdahfpfgdaaGreatDoorProg
namespace Go.Proofs
open Go.Shelf
def Tryz.keysN_ren : Go.Shelf.Ren := ⟨fun | 7 => 84 | 10 => 117 | n => n, fun | 23 => 145 | 26 => 3 | 3 => 3 | 28 => 120 | 0 => 0 | 27 => 119 | 33 => 74 | 4 => 4 | n => n, fun | n => n⟩
theorem Tryz.keysN : Go.Proofs.SlLaysZI.n7 Tryz.prog Tryz.keysN_ren := {
  mixed := by kernel_rfl
  f7 := ⟨Tryz.f84.name, by decide, Tryz.func84.trans (congrArg some (by kernel_rfl))⟩
  f10 := ⟨Tryz.f117.name, by decide, Tryz.func117.trans (congrArg some (by kernel_rfl))⟩
  t0 := Tryz.underlying0
  a0 := Tryz.isAgg0
  z0 := Tryz.sizeOf0
  v0 := Tryz.zeroValue0
  t4 := Tryz.underlying4
  a4 := Tryz.isAgg4
  z4 := Tryz.sizeOf4
  v4 := Tryz.zeroValue4
  t23 := Tryz.underlying145
  a23 := Tryz.isAgg145
  z23 := Tryz.sizeOf145
  v23 := Tryz.zeroValue145
  t26 := Tryz.underlying3
  a26 := Tryz.isAgg3
  z26 := Tryz.sizeOf3
  v26 := Tryz.zeroValue3
  t27 := Tryz.underlying119
  a27 := Tryz.isAgg119
  z27 := Tryz.sizeOf119
  v27 := Tryz.zeroValue119
  t28 := Tryz.underlying120
  a28 := Tryz.isAgg120
  z28 := Tryz.sizeOf120
  v28 := Tryz.zeroValue120
  t33 := Tryz.underlying74
  a33 := Tryz.isAgg74
  z33 := Tryz.sizeOf74
  v33 := Tryz.zeroValue74 }
end Go.Proofs
