/-
  DERIVED: THE SHELF's CONTRACTS AT THIS DUMP, IN PLAIN WORDS (tools/lay-plain.mjs out of 'YtlhkkniebaganaaGreatDoorIdLay0.lean', which tools/lay-shelf.mjs wrote): THE SAME DECLARATIONS UNDER THE SAME NAMES: 'import', 'namespace', 'open', 'def', 'theorem' AND NOTHING ELSE: no command of the shelf's: FOR A HAND-IN. Each laying: the table of numbers ('.._ren') and one theorem, a field a fact of the dump's own or the kernel's comparison; each contract: ONE APPLICATION.
-/
import Derived.Shelf.SlGeneric
import Derived.Shelf.SlSortCmp.NoneTotal
import Derived.Shelf.SlicesE.Clone
import Derived.Shelf.SlicesQ.Contains
import Derived.Shelf.SlicesQ.IndexFunc
import Derived.Ground.SlsfProg
import Derived.Ground.SlgnProg
import Derived.Ground.SlgqProg
import Derived.Ground.SlgfProg
import Derived.Test.YtlhkkniebaganaaGreatDoorProg
namespace Go.Proofs
open Go.Shelf
def Tryz.sortId_ren : Go.Shelf.Ren := ⟨fun | 6 => 21 | 15 => 36 | 14 => 35 | 28 => 55 | 29 => 56 | 20 => 47 | 21 => 48 | 22 => 49 | 23 => 50 | 24 => 51 | 25 => 52 | 26 => 53 | 27 => 54 | 46 => 69 | 47 => 70 | 48 => 71 | 49 => 72 | 50 => 73 | 57 => 91 | n => n, fun | 22 => 22 | 24 => 24 | 25 => 33 | 3 => 3 | 39 => 61 | 0 => 0 | 53 => 80 | 55 => 82 | 4 => 4 | 46 => 74 | 45 => 73 | 50 => 54 | 5 => 5 | 9 => 9 | 66 => 94 | 70 => 98 | 76 => 117 | 77 => 118 | n => n, fun | n => n⟩
theorem Tryz.sortId : Go.Proofs.SlLaysF0.n6 Tryz.prog Tryz.sortId_ren := {
  mixed := by kernel_rfl
  f6 := ⟨Tryz.f21.name, by decide, Tryz.func21.trans (congrArg some (by kernel_rfl))⟩
  f14 := ⟨Tryz.f35.name, by decide, Tryz.func35.trans (congrArg some (by kernel_rfl))⟩
  f15 := Tryz.func36.trans (congrArg some (by kernel_rfl))
  f20 := ⟨Tryz.f47.name, by decide, Tryz.func47.trans (congrArg some (by kernel_rfl))⟩
  f21 := ⟨Tryz.f48.name, by decide, Tryz.func48.trans (congrArg some (by kernel_rfl))⟩
  f22 := ⟨Tryz.f49.name, by decide, Tryz.func49.trans (congrArg some (by kernel_rfl))⟩
  f23 := ⟨Tryz.f50.name, by decide, Tryz.func50.trans (congrArg some (by kernel_rfl))⟩
  f24 := ⟨Tryz.f51.name, by decide, Tryz.func51.trans (congrArg some (by kernel_rfl))⟩
  f25 := ⟨Tryz.f52.name, by decide, Tryz.func52.trans (congrArg some (by kernel_rfl))⟩
  f26 := ⟨Tryz.f53.name, by decide, Tryz.func53.trans (congrArg some (by kernel_rfl))⟩
  f27 := ⟨Tryz.f54.name, by decide, Tryz.func54.trans (congrArg some (by kernel_rfl))⟩
  f28 := Tryz.func55.trans (congrArg some (by kernel_rfl))
  f29 := Tryz.func56.trans (congrArg some (by kernel_rfl))
  f46 := ⟨Tryz.f69.name, by decide, Tryz.func69.trans (congrArg some (by kernel_rfl))⟩
  f47 := Tryz.func70.trans (congrArg some (by kernel_rfl))
  f48 := Tryz.func71.trans (congrArg some (by kernel_rfl))
  f49 := ⟨Tryz.f72.name, by decide, Tryz.func72.trans (congrArg some (by kernel_rfl))⟩
  f50 := ⟨Tryz.f73.name, by decide, Tryz.func73.trans (congrArg some (by kernel_rfl))⟩
  f57 := ⟨Tryz.f91.name, by decide, Tryz.func91.trans (congrArg some (by kernel_rfl))⟩
  t0 := Tryz.underlying0
  a0 := Tryz.isAgg0
  z0 := Tryz.sizeOf0
  v0 := Tryz.zeroValue0
  t3 := Tryz.underlying3
  a3 := Tryz.isAgg3
  z3 := Tryz.sizeOf3
  v3 := Tryz.zeroValue3
  t4 := Tryz.underlying4
  a4 := Tryz.isAgg4
  z4 := Tryz.sizeOf4
  v4 := Tryz.zeroValue4
  t5 := Tryz.underlying5
  a5 := Tryz.isAgg5
  z5 := Tryz.sizeOf5
  v5 := Tryz.zeroValue5
  t9 := Tryz.underlying9
  a9 := Tryz.isAgg9
  z9 := Tryz.sizeOf9
  v9 := Tryz.zeroValue9
  t22 := Tryz.underlying22
  a22 := Tryz.isAgg22
  z22 := Tryz.sizeOf22
  v22 := Tryz.zeroValue22
  t25 := Tryz.underlying33
  a25 := Tryz.isAgg33
  z25 := Tryz.sizeOf33
  v25 := Tryz.zeroValue33
  t39 := Tryz.underlying61
  a39 := Tryz.isAgg61
  z39 := Tryz.sizeOf61
  v39 := Tryz.zeroValue61
  t45 := Tryz.underlying73
  a45 := Tryz.isAgg73
  z45 := Tryz.sizeOf73
  v45 := Tryz.zeroValue73
  t46 := Tryz.underlying74
  a46 := Tryz.isAgg74
  z46 := Tryz.sizeOf74
  v46 := Tryz.zeroValue74
  t50 := Tryz.underlying54
  a50 := Tryz.isAgg54
  z50 := Tryz.sizeOf54
  v50 := Tryz.zeroValue54
  t53 := Tryz.underlying80
  a53 := Tryz.isAgg80
  z53 := Tryz.sizeOf80
  v53 := Tryz.zeroValue80
  t55 := Tryz.underlying82
  a55 := Tryz.isAgg82
  z55 := Tryz.sizeOf82
  v55 := Tryz.zeroValue82
  t66 := Tryz.underlying94
  a66 := Tryz.isAgg94
  z66 := Tryz.sizeOf94
  v66 := Tryz.zeroValue94
  t70 := Tryz.underlying98
  a70 := Tryz.isAgg98
  z70 := Tryz.sizeOf98
  v70 := Tryz.zeroValue98
  t76 := Tryz.underlying117
  a76 := Tryz.isAgg117
  z76 := Tryz.sizeOf117
  v76 := Tryz.zeroValue117
  t77 := Tryz.underlying118
  a77 := Tryz.isAgg118
  z77 := Tryz.sizeOf118
  v77 := Tryz.zeroValue118 }
def Tryz.cloneId_ren : Go.Shelf.Ren := ⟨fun | 41 => 20 | n => n, fun | 22 => 22 | 23 => 24 | 4 => 4 | n => n, fun | n => n⟩
theorem Tryz.cloneId : Go.Proofs.SlLaysE0.n41 Tryz.prog Tryz.cloneId_ren := {
  mixed := by kernel_rfl
  f41 := ⟨Tryz.f20.name, by decide, Tryz.func20.trans (congrArg some (by kernel_rfl))⟩
  t4 := Tryz.underlying4
  a4 := Tryz.isAgg4
  z4 := Tryz.sizeOf4
  v4 := Tryz.zeroValue4
  t22 := Tryz.underlying22
  a22 := Tryz.isAgg22
  z22 := Tryz.sizeOf22
  v22 := Tryz.zeroValue22 }
def Tryz.containsId_ren : Go.Shelf.Ren := ⟨fun | 7 => 27 | 6 => 40 | n => n, fun | 22 => 22 | 24 => 24 | 4 => 4 | 0 => 0 | 3 => 3 | n => n, fun | n => n⟩
theorem Tryz.containsId : Go.Proofs.SlLaysQ.n7 Tryz.prog Tryz.containsId_ren := {
  mixed := by kernel_rfl
  f6 := ⟨Tryz.f40.name, by decide, Tryz.func40.trans (congrArg some (by kernel_rfl))⟩
  f7 := ⟨Tryz.f27.name, by decide, Tryz.func27.trans (congrArg some (by kernel_rfl))⟩
  t0 := Tryz.underlying0
  a0 := Tryz.isAgg0
  z0 := Tryz.sizeOf0
  v0 := Tryz.zeroValue0
  t3 := Tryz.underlying3
  a3 := Tryz.isAgg3
  z3 := Tryz.sizeOf3
  v3 := Tryz.zeroValue3
  t4 := Tryz.underlying4
  a4 := Tryz.isAgg4
  z4 := Tryz.sizeOf4
  v4 := Tryz.zeroValue4
  t22 := Tryz.underlying22
  a22 := Tryz.isAgg22
  z22 := Tryz.sizeOf22
  v22 := Tryz.zeroValue22 }
def Tryz.indexFuncId_ren : Go.Shelf.Ren := ⟨fun | 6 => 39 | n => n, fun | 22 => 22 | 23 => 24 | 25 => 47 | 3 => 3 | 0 => 0 | 4 => 4 | n => n, fun | n => n⟩
theorem Tryz.indexFuncId : Go.Proofs.SlLaysH0.n6 Tryz.prog Tryz.indexFuncId_ren := {
  mixed := by kernel_rfl
  f6 := ⟨Tryz.f39.name, by decide, Tryz.func39.trans (congrArg some (by kernel_rfl))⟩
  t0 := Tryz.underlying0
  a0 := Tryz.isAgg0
  z0 := Tryz.sizeOf0
  v0 := Tryz.zeroValue0
  t3 := Tryz.underlying3
  a3 := Tryz.isAgg3
  z3 := Tryz.sizeOf3
  v3 := Tryz.zeroValue3
  t4 := Tryz.underlying4
  a4 := Tryz.isAgg4
  z4 := Tryz.sizeOf4
  v4 := Tryz.zeroValue4
  t22 := Tryz.underlying22
  a22 := Tryz.isAgg22
  z22 := Tryz.sizeOf22
  v22 := Tryz.zeroValue22
  t25 := Tryz.underlying47
  a25 := Tryz.isAgg47
  z25 := Tryz.sizeOf47
  v25 := Tryz.zeroValue47 }
end Go.Proofs
