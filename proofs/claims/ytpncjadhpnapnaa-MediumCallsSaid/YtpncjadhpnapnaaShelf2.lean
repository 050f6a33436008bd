/-
  contracts of the library at this program
-/
import Derived.Shelf.SlIterI.Nil
import Derived.Shelf.SlIterI.Sorted
import Derived.Shelf.SlMaps.Clone
import Derived.Test.YtpncjadhpnapnaaProg
namespace Go.Proofs.Ytpncjadhpnapnaa
open Go.Shelf
def Try.keysA_ren : Go.Shelf.Ren := ⟨fun | 7 => 68 | 10 => 77 | n => n, fun | 23 => 98 | 26 => 3 | 3 => 4 | 28 => 129 | 0 => 0 | 27 => 128 | 33 => 34 | 4 => 4 | n => n, fun | n => n⟩
theorem Try.keysA : Go.Proofs.SlLaysZI.n7 Try.prog Try.keysA_ren := {
  mixed := by kernel_rfl
  f7 := ⟨Try.f68.name, by decide, Try.func68.trans (congrArg some (by kernel_rfl))⟩
  f10 := ⟨Try.f77.name, by decide, Try.func77.trans (congrArg some (by kernel_rfl))⟩
  t0 := Try.underlying0
  a0 := Try.isAgg0
  z0 := Try.sizeOf0
  v0 := Try.zeroValue0
  t4 := Try.underlying4
  a4 := Try.isAgg4
  z4 := Try.sizeOf4
  v4 := Try.zeroValue4
  t23 := Try.underlying98
  a23 := Try.isAgg98
  z23 := Try.sizeOf98
  v23 := Try.zeroValue98
  t26 := Try.underlying3
  a26 := Try.isAgg3
  z26 := Try.sizeOf3
  v26 := Try.zeroValue3
  t27 := Try.underlying128
  a27 := Try.isAgg128
  z27 := Try.sizeOf128
  v27 := Try.zeroValue128
  t28 := Try.underlying129
  a28 := Try.isAgg129
  z28 := Try.sizeOf129
  v28 := Try.zeroValue129
  t33 := Try.underlying34
  a33 := Try.isAgg34
  z33 := Try.sizeOf34
  v33 := Try.zeroValue34 }
def Try.collectA_ren : Go.Shelf.Ren := ⟨fun | 8 => 67 | 11 => 76 | n => n, fun | 26 => 3 | 28 => 129 | 24 => 30 | 0 => 0 | 33 => 34 | 4 => 4 | n => n, fun | n => n⟩
theorem Try.collectA : Go.Proofs.SlLaysZI.n8 Try.prog Try.collectA_ren := {
  mixed := by kernel_rfl
  f8 := ⟨Try.f67.name, by decide, Try.func67.trans (congrArg some (by kernel_rfl))⟩
  f11 := ⟨Try.f76.name, by decide, Try.func76.trans (congrArg some (by kernel_rfl))⟩
  t0 := Try.underlying0
  a0 := Try.isAgg0
  z0 := Try.sizeOf0
  v0 := Try.zeroValue0
  t24 := Try.underlying30
  a24 := Try.isAgg30
  z24 := Try.sizeOf30
  v24 := Try.zeroValue30
  t26 := Try.underlying3
  a26 := Try.isAgg3
  z26 := Try.sizeOf3
  v26 := Try.zeroValue3
  t28 := Try.underlying129
  a28 := Try.isAgg129
  z28 := Try.sizeOf129
  v28 := Try.zeroValue129
  i26 := by kernel_rfl }
def Try.cloneB_ren : Go.Shelf.Ren := ⟨fun | 5 => 58 | 7 => 73 | n => n, fun | 23 => 98 | 25 => 3 | 3 => 4 | 4 => 4 | 20 => 20 | n => n, fun | n => n⟩
theorem Try.cloneB : Go.Proofs.SlLaysW.n5 Try.prog Try.cloneB_ren := {
  mixed := by kernel_rfl
  f5 := ⟨Try.f58.name, by decide, Try.func58.trans (congrArg some (by kernel_rfl))⟩
  f7 := Try.func73.trans (congrArg some (by kernel_rfl))
  t4 := Try.underlying4
  a4 := Try.isAgg4
  z4 := Try.sizeOf4
  v4 := Try.zeroValue4
  t20 := Try.underlying20
  a20 := Try.isAgg20
  z20 := Try.sizeOf20
  v20 := Try.zeroValue20
  t23 := Try.underlying98
  a23 := Try.isAgg98
  z23 := Try.sizeOf98
  v23 := Try.zeroValue98 }
def Try.cloneU_ren : Go.Shelf.Ren := ⟨fun | 5 => 59 | 7 => 73 | n => n, fun | 23 => 99 | 25 => 3 | 3 => 5 | 4 => 4 | 20 => 20 | n => n, fun | n => n⟩
theorem Try.cloneU : Go.Proofs.SlLaysW.n5 Try.prog Try.cloneU_ren := {
  mixed := by kernel_rfl
  f5 := ⟨Try.f59.name, by decide, Try.func59.trans (congrArg some (by kernel_rfl))⟩
  f7 := Try.func73.trans (congrArg some (by kernel_rfl))
  t4 := Try.underlying4
  a4 := Try.isAgg4
  z4 := Try.sizeOf4
  v4 := Try.zeroValue4
  t20 := Try.underlying20
  a20 := Try.isAgg20
  z20 := Try.sizeOf20
  v20 := Try.zeroValue20
  t23 := Try.underlying99
  a23 := Try.isAgg99
  z23 := Try.sizeOf99
  v23 := Try.zeroValue99 }
def Try.cloneI_ren : Go.Shelf.Ren := ⟨fun | 5 => 61 | 7 => 73 | n => n, fun | 23 => 86 | 25 => 3 | 3 => 30 | 4 => 4 | 20 => 20 | n => n, fun | n => n⟩
theorem Try.cloneI : Go.Proofs.SlLaysW.n5 Try.prog Try.cloneI_ren := {
  mixed := by kernel_rfl
  f5 := ⟨Try.f61.name, by decide, Try.func61.trans (congrArg some (by kernel_rfl))⟩
  f7 := Try.func73.trans (congrArg some (by kernel_rfl))
  t4 := Try.underlying4
  a4 := Try.isAgg4
  z4 := Try.sizeOf4
  v4 := Try.zeroValue4
  t20 := Try.underlying20
  a20 := Try.isAgg20
  z20 := Try.sizeOf20
  v20 := Try.zeroValue20
  t23 := Try.underlying86
  a23 := Try.isAgg86
  z23 := Try.sizeOf86
  v23 := Try.zeroValue86 }
end Go.Proofs.Ytpncjadhpnapnaa
