/- One more of the library's contracts at this program, in plain words: laid by the kit's own tool. -/
import Derived.Shelf.SlIterI.Nil
import Derived.Test.YtagbnacffiagcaaDoorProg
namespace Go.Proofs
open Go.Shelf
def Tryd.keysN_ren : Go.Shelf.Ren := ⟨fun | 7 => 105 | 10 => 121 | n => n, fun | 23 => 146 | 26 => 3 | 3 => 3 | 28 => 141 | 0 => 0 | 27 => 140 | 33 => 45 | 4 => 4 | n => n, fun | n => n⟩
theorem Tryd.keysN : Go.Proofs.SlLaysZI.n7 Tryd.prog Tryd.keysN_ren := {
  mixed := by kernel_rfl
  f7 := ⟨Tryd.f105.name, by decide, Tryd.func105.trans (congrArg some (by kernel_rfl))⟩
  f10 := ⟨Tryd.f121.name, by decide, Tryd.func121.trans (congrArg some (by kernel_rfl))⟩
  t0 := Tryd.underlying0
  a0 := Tryd.isAgg0
  z0 := Tryd.sizeOf0
  v0 := Tryd.zeroValue0
  t4 := Tryd.underlying4
  a4 := Tryd.isAgg4
  z4 := Tryd.sizeOf4
  v4 := Tryd.zeroValue4
  t23 := Tryd.underlying146
  a23 := Tryd.isAgg146
  z23 := Tryd.sizeOf146
  v23 := Tryd.zeroValue146
  t26 := Tryd.underlying3
  a26 := Tryd.isAgg3
  z26 := Tryd.sizeOf3
  v26 := Tryd.zeroValue3
  t27 := Tryd.underlying140
  a27 := Tryd.isAgg140
  z27 := Tryd.sizeOf140
  v27 := Tryd.zeroValue140
  t28 := Tryd.underlying141
  a28 := Tryd.isAgg141
  z28 := Tryd.sizeOf141
  v28 := Tryd.zeroValue141
  t33 := Tryd.underlying45
  a33 := Tryd.isAgg45
  z33 := Tryd.sizeOf45
  v33 := Tryd.zeroValue45 }
end Go.Proofs
