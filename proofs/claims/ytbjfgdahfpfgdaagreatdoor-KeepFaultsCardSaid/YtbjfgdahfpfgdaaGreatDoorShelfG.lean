/- More of the library's contracts at this program, in plain words: laid by the kit's own tool. -/
import Derived.Shelf.SlIterI.Nil
import Derived.Shelf.SlicesG.SearchI
import Derived.Shelf.SlicesG.CompactI
import Derived.Shelf.SlicesG.Cells
import Derived.Shelf.SlicesE.IndexFunc
import Derived.Shelf.SlicesE.Clone
import Derived.Shelf.SlMaps.Clone
import Derived.Test.YtbjfgdahfpfgdaaGreatDoorProg
namespace Go.Proofs
open Go.Shelf
def Tryz.keysR_ren : Go.Shelf.Ren := ⟨fun | 7 => 87 | 10 => 120 | n => n, fun | 23 => 90 | 26 => 3 | 3 => 111 | 28 => 120 | 0 => 0 | 27 => 119 | 33 => 74 | 4 => 4 | n => n, fun | n => n⟩
theorem Tryz.keysR : Go.Proofs.SlLaysZI.n7 Tryz.prog Tryz.keysR_ren := {
  mixed := by kernel_rfl
  f7 := ⟨Tryz.f87.name, by decide, Tryz.func87.trans (congrArg some (by kernel_rfl))⟩
  f10 := ⟨Tryz.f120.name, by decide, Tryz.func120.trans (congrArg some (by kernel_rfl))⟩
  t0 := Tryz.underlying0
  a0 := Tryz.isAgg0
  z0 := Tryz.sizeOf0
  v0 := Tryz.zeroValue0
  t4 := Tryz.underlying4
  a4 := Tryz.isAgg4
  z4 := Tryz.sizeOf4
  v4 := Tryz.zeroValue4
  t23 := Tryz.underlying90
  a23 := Tryz.isAgg90
  z23 := Tryz.sizeOf90
  v23 := Tryz.zeroValue90
  t26 := Tryz.underlying3
  a26 := Tryz.isAgg3
  z26 := Tryz.sizeOf3
  v26 := Tryz.zeroValue3
  t27 := Tryz.underlying119
  a27 := Tryz.isAgg119
  z27 := Tryz.sizeOf119
  v27 := Tryz.zeroValue119
  t28 := Tryz.underlying120
  a28 := Tryz.isAgg120
  z28 := Tryz.sizeOf120
  v28 := Tryz.zeroValue120
  t33 := Tryz.underlying74
  a33 := Tryz.isAgg74
  z33 := Tryz.sizeOf74
  v33 := Tryz.zeroValue74 }
def Tryz.collectA_ren : Go.Shelf.Ren := ⟨fun | 8 => 86 | 11 => 119 | n => n, fun | 26 => 3 | 28 => 120 | 24 => 62 | 0 => 0 | 33 => 74 | 4 => 4 | n => n, fun | n => n⟩
theorem Tryz.collectA : Go.Proofs.SlLaysZI.n8 Tryz.prog Tryz.collectA_ren := {
  mixed := by kernel_rfl
  f8 := ⟨Tryz.f86.name, by decide, Tryz.func86.trans (congrArg some (by kernel_rfl))⟩
  f11 := ⟨Tryz.f119.name, by decide, Tryz.func119.trans (congrArg some (by kernel_rfl))⟩
  t0 := Tryz.underlying0
  a0 := Tryz.isAgg0
  z0 := Tryz.sizeOf0
  v0 := Tryz.zeroValue0
  t24 := Tryz.underlying62
  a24 := Tryz.isAgg62
  z24 := Tryz.sizeOf62
  v24 := Tryz.zeroValue62
  t26 := Tryz.underlying3
  a26 := Tryz.isAgg3
  z26 := Tryz.sizeOf3
  v26 := Tryz.zeroValue3
  t28 := Tryz.underlying120
  a28 := Tryz.isAgg120
  z28 := Tryz.sizeOf120
  v28 := Tryz.zeroValue120
  i26 := by kernel_rfl }
def Tryz.compactA_ren : Go.Shelf.Ren := ⟨fun | 43 => 79 | n => n, fun | 22 => 62 | 23 => 3 | 3 => 3 | 4 => 4 | 0 => 0 | n => n, fun | n => n⟩
theorem Tryz.compactA : Go.Proofs.SlLaysN.n43 Tryz.prog Tryz.compactA_ren := {
  mixed := by kernel_rfl
  f43 := ⟨Tryz.f79.name, by decide, Tryz.func79.trans (congrArg some (by kernel_rfl))⟩
  t0 := Tryz.underlying0
  a0 := Tryz.isAgg0
  z0 := Tryz.sizeOf0
  v0 := Tryz.zeroValue0
  t3 := Tryz.underlying3
  a3 := Tryz.isAgg3
  z3 := Tryz.sizeOf3
  v3 := Tryz.zeroValue3
  t4 := Tryz.underlying4
  a4 := Tryz.isAgg4
  z4 := Tryz.sizeOf4
  v4 := Tryz.zeroValue4
  t22 := Tryz.underlying62
  a22 := Tryz.isAgg62
  z22 := Tryz.sizeOf62
  v22 := Tryz.zeroValue62
  t23 := Tryz.underlying3
  a23 := Tryz.isAgg3
  z23 := Tryz.sizeOf3
  v23 := Tryz.zeroValue3
  i23 := by kernel_rfl }
def Tryz.searchA_ren : Go.Shelf.Ren := ⟨fun | 49 => 82 | 59 => 115 | 60 => 116 | 68 => 149 | n => n, fun | 22 => 62 | 23 => 3 | 3 => 3 | 4 => 4 | 51 => 69 | 0 => 0 | n => n, fun | n => n⟩
theorem Tryz.searchA : Go.Proofs.SlLaysN.n49 Tryz.prog Tryz.searchA_ren := {
  mixed := by kernel_rfl
  f49 := ⟨Tryz.f82.name, by decide, Tryz.func82.trans (congrArg some (by kernel_rfl))⟩
  f59 := ⟨Tryz.f115.name, by decide, Tryz.func115.trans (congrArg some (by kernel_rfl))⟩
  f60 := ⟨Tryz.f116.name, by decide, Tryz.func116.trans (congrArg some (by kernel_rfl))⟩
  f68 := ⟨Tryz.f149.name, by decide, Tryz.func149.trans (congrArg some (by kernel_rfl))⟩
  t0 := Tryz.underlying0
  a0 := Tryz.isAgg0
  z0 := Tryz.sizeOf0
  v0 := Tryz.zeroValue0
  t3 := Tryz.underlying3
  a3 := Tryz.isAgg3
  z3 := Tryz.sizeOf3
  v3 := Tryz.zeroValue3
  t4 := Tryz.underlying4
  a4 := Tryz.isAgg4
  z4 := Tryz.sizeOf4
  v4 := Tryz.zeroValue4
  t22 := Tryz.underlying62
  a22 := Tryz.isAgg62
  z22 := Tryz.sizeOf62
  v22 := Tryz.zeroValue62
  t23 := Tryz.underlying3
  a23 := Tryz.isAgg3
  z23 := Tryz.sizeOf3
  v23 := Tryz.zeroValue3
  t51 := Tryz.underlying69
  a51 := Tryz.isAgg69
  z51 := Tryz.sizeOf69
  v51 := Tryz.zeroValue69 }
def Tryz.cloneRs_ren : Go.Shelf.Ren := ⟨fun | 41 => 80 | n => n, fun | 22 => 87 | 23 => 111 | 4 => 4 | n => n, fun | n => n⟩
theorem Tryz.cloneRs : Go.Proofs.SlLaysE0.n41 Tryz.prog Tryz.cloneRs_ren := {
  mixed := by kernel_rfl
  f41 := ⟨Tryz.f80.name, by decide, Tryz.func80.trans (congrArg some (by kernel_rfl))⟩
  t4 := Tryz.underlying4
  a4 := Tryz.isAgg4
  z4 := Tryz.sizeOf4
  v4 := Tryz.zeroValue4
  t22 := Tryz.underlying87
  a22 := Tryz.isAgg87
  z22 := Tryz.sizeOf87
  v22 := Tryz.zeroValue87 }
def Tryz.cloneRm_ren : Go.Shelf.Ren := ⟨fun | 5 => 81 | 7 => 107 | n => n, fun | 23 => 90 | 25 => 3 | 3 => 111 | 4 => 4 | 20 => 20 | n => n, fun | n => n⟩
theorem Tryz.cloneRm : Go.Proofs.SlLaysW.n5 Tryz.prog Tryz.cloneRm_ren := {
  mixed := by kernel_rfl
  f5 := ⟨Tryz.f81.name, by decide, Tryz.func81.trans (congrArg some (by kernel_rfl))⟩
  f7 := Tryz.func107.trans (congrArg some (by kernel_rfl))
  t4 := Tryz.underlying4
  a4 := Tryz.isAgg4
  z4 := Tryz.sizeOf4
  v4 := Tryz.zeroValue4
  t20 := Tryz.underlying20
  a20 := Tryz.isAgg20
  z20 := Tryz.sizeOf20
  v20 := Tryz.zeroValue20
  t23 := Tryz.underlying90
  a23 := Tryz.isAgg90
  z23 := Tryz.sizeOf90
  v23 := Tryz.zeroValue90 }
def Tryz.containsI_ren : Go.Shelf.Ren := ⟨fun | 8 => 85 | 6 => 118 | n => n, fun | 22 => 62 | 23 => 3 | 25 => 74 | 4 => 4 | 3 => 3 | 0 => 0 | n => n, fun | n => n⟩
theorem Tryz.containsI : Go.Proofs.SlLaysH.n8 Tryz.prog Tryz.containsI_ren := {
  mixed := by kernel_rfl
  f6 := ⟨Tryz.f118.name, by decide, Tryz.func118.trans (congrArg some (by kernel_rfl))⟩
  f8 := ⟨Tryz.f85.name, by decide, Tryz.func85.trans (congrArg some (by kernel_rfl))⟩
  t0 := Tryz.underlying0
  a0 := Tryz.isAgg0
  z0 := Tryz.sizeOf0
  v0 := Tryz.zeroValue0
  t3 := Tryz.underlying3
  a3 := Tryz.isAgg3
  z3 := Tryz.sizeOf3
  v3 := Tryz.zeroValue3
  t4 := Tryz.underlying4
  a4 := Tryz.isAgg4
  z4 := Tryz.sizeOf4
  v4 := Tryz.zeroValue4
  t22 := Tryz.underlying62
  a22 := Tryz.isAgg62
  z22 := Tryz.sizeOf62
  v22 := Tryz.zeroValue62
  a23 := Tryz.isAgg3
  z23 := Tryz.sizeOf3
  t25 := Tryz.underlying74
  a25 := Tryz.isAgg74
  z25 := Tryz.sizeOf74
  v25 := Tryz.zeroValue74 }
end Go.Proofs
