/-
  DERIVED: THE SHELF's CONTRACTS AT THIS DUMP, IN PLAIN WORDS (tools/lay-plain.mjs out of 'YtjnedcncfdpjoaaSlTry.lean', which tools/lay-shelf.mjs wrote): THE SAME DECLARATIONS UNDER THE SAME NAMES: 'import', 'namespace', 'open', 'def', 'theorem' AND NOTHING ELSE: no command of the shelf's: FOR A HAND-IN. Each laying: the table of numbers ('.._ren') and one theorem, a field a fact of the dump's own or the kernel's comparison; each contract: ONE APPLICATION.
-/
import Derived.Shelf.SlIterI.Nil
import Derived.Shelf.SlIterI.Sorted
import Derived.Ground.GgzProg
import Derived.Test.YtjnedcncfdpjoaaProg
namespace Go.Proofs.Ytjnedcncfdpjoaa
open Go.Shelf
def Try.keysA_ren : Go.Shelf.Ren := ⟨fun | 7 => 36 | 10 => 53 | n => n, fun | 23 => 36 | 26 => 3 | 3 => 3 | 28 => 65 | 0 => 0 | 27 => 64 | 33 => 58 | 4 => 4 | n => n, fun | n => n⟩
theorem Try.keysA : Go.Proofs.SlLaysZI.n7 Try.prog Try.keysA_ren := {
  mixed := by kernel_rfl
  f7 := ⟨Try.f36.name, by decide, Try.func36.trans (congrArg some (by kernel_rfl))⟩
  f10 := ⟨Try.f53.name, by decide, Try.func53.trans (congrArg some (by kernel_rfl))⟩
  t0 := Try.underlying0
  a0 := Try.isAgg0
  z0 := Try.sizeOf0
  v0 := Try.zeroValue0
  t4 := Try.underlying4
  a4 := Try.isAgg4
  z4 := Try.sizeOf4
  v4 := Try.zeroValue4
  t23 := Try.underlying36
  a23 := Try.isAgg36
  z23 := Try.sizeOf36
  v23 := Try.zeroValue36
  t26 := Try.underlying3
  a26 := Try.isAgg3
  z26 := Try.sizeOf3
  v26 := Try.zeroValue3
  t27 := Try.underlying64
  a27 := Try.isAgg64
  z27 := Try.sizeOf64
  v27 := Try.zeroValue64
  t28 := Try.underlying65
  a28 := Try.isAgg65
  z28 := Try.sizeOf65
  v28 := Try.zeroValue65
  t33 := Try.underlying58
  a33 := Try.isAgg58
  z33 := Try.sizeOf58
  v33 := Try.zeroValue58 }
def Try.sortedA_ren : Go.Shelf.Ren := ⟨fun | 6 => 35 | 8 => 52 | 9 => 33 | 11 => 75 | 13 => 51 | 12 => 50 | 23 => 73 | 24 => 74 | 14 => 65 | 15 => 66 | 16 => 67 | 17 => 68 | 18 => 69 | 19 => 70 | 20 => 48 | 21 => 71 | 22 => 72 | 25 => 83 | 26 => 84 | 27 => 85 | 28 => 86 | 29 => 87 | 30 => 64 | 31 => 93 | n => n, fun | 26 => 3 | 28 => 65 | 24 => 22 | 0 => 0 | 3 => 3 | 37 => 82 | 48 => 101 | 50 => 103 | 4 => 4 | 40 => 95 | 39 => 94 | 45 => 31 | 5 => 5 | 9 => 9 | 51 => 108 | 55 => 112 | 57 => 118 | 58 => 119 | 33 => 58 | n => n, fun | n => n⟩
theorem Try.sortedA : Go.Proofs.SlLaysZI.n6 Try.prog Try.sortedA_ren := {
  mixed := by kernel_rfl
  f6 := ⟨Try.f35.name, by decide, Try.func35.trans (congrArg some (by kernel_rfl))⟩
  f8 := ⟨Try.f52.name, by decide, Try.func52.trans (congrArg some (by kernel_rfl))⟩
  f11 := ⟨Try.f75.name, by decide, Try.func75.trans (congrArg some (by kernel_rfl))⟩
  t0 := Try.underlying0
  a0 := Try.isAgg0
  z0 := Try.sizeOf0
  v0 := Try.zeroValue0
  t24 := Try.underlying22
  a24 := Try.isAgg22
  z24 := Try.sizeOf22
  v24 := Try.zeroValue22
  t26 := Try.underlying3
  a26 := Try.isAgg3
  z26 := Try.sizeOf3
  v26 := Try.zeroValue3
  t28 := Try.underlying65
  a28 := Try.isAgg65
  z28 := Try.sizeOf65
  v28 := Try.zeroValue65
  i26 := by kernel_rfl }
end Go.Proofs.Ytjnedcncfdpjoaa
