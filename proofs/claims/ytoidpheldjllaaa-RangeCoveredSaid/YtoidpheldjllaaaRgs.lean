/-
  slices.SortFunc at []api.Range: the library's closure laid at this program. By an AI agent; printed by the kit's lay-plain.mjs.
-/
import Derived.Shelf.SlLaysF0
import Derived.Shelf.SlGeneric
import Derived.Ground.SlsfProg
import Derived.Test.YtoidpheldjllaaaProg
namespace Go.Proofs
open Go.Shelf
def Try.sortRg_ren : Go.Shelf.Ren := ⟨fun | 6 => 38 | 15 => 42 | 14 => 41 | 28 => 52 | 29 => 53 | 20 => 44 | 21 => 45 | 22 => 46 | 23 => 47 | 24 => 48 | 25 => 49 | 26 => 50 | 27 => 51 | 46 => 54 | 47 => 55 | 48 => 56 | 49 => 57 | 50 => 58 | 57 => 59 | n => n, fun | 22 => 30 | 24 => 23 | 25 => 51 | 3 => 3 | 39 => 42 | 0 => 0 | 53 => 64 | 55 => 66 | 4 => 4 | 46 => 57 | 45 => 56 | 50 => 61 | 5 => 5 | 9 => 9 | 66 => 67 | 70 => 71 | 76 => 73 | 77 => 74 | n => n, fun | n => n⟩
theorem Try.sortRg : Go.Proofs.SlLaysF0.n6 Try.prog Try.sortRg_ren := {
  mixed := by kernel_rfl
  f6 := ⟨Try.f38.name, by decide, Try.func38.trans (congrArg some (by kernel_rfl))⟩
  f14 := ⟨Try.f41.name, by decide, Try.func41.trans (congrArg some (by kernel_rfl))⟩
  f15 := Try.func42.trans (congrArg some (by kernel_rfl))
  f20 := ⟨Try.f44.name, by decide, Try.func44.trans (congrArg some (by kernel_rfl))⟩
  f21 := ⟨Try.f45.name, by decide, Try.func45.trans (congrArg some (by kernel_rfl))⟩
  f22 := ⟨Try.f46.name, by decide, Try.func46.trans (congrArg some (by kernel_rfl))⟩
  f23 := ⟨Try.f47.name, by decide, Try.func47.trans (congrArg some (by kernel_rfl))⟩
  f24 := ⟨Try.f48.name, by decide, Try.func48.trans (congrArg some (by kernel_rfl))⟩
  f25 := ⟨Try.f49.name, by decide, Try.func49.trans (congrArg some (by kernel_rfl))⟩
  f26 := ⟨Try.f50.name, by decide, Try.func50.trans (congrArg some (by kernel_rfl))⟩
  f27 := ⟨Try.f51.name, by decide, Try.func51.trans (congrArg some (by kernel_rfl))⟩
  f28 := Try.func52.trans (congrArg some (by kernel_rfl))
  f29 := Try.func53.trans (congrArg some (by kernel_rfl))
  f46 := ⟨Try.f54.name, by decide, Try.func54.trans (congrArg some (by kernel_rfl))⟩
  f47 := Try.func55.trans (congrArg some (by kernel_rfl))
  f48 := Try.func56.trans (congrArg some (by kernel_rfl))
  f49 := ⟨Try.f57.name, by decide, Try.func57.trans (congrArg some (by kernel_rfl))⟩
  f50 := ⟨Try.f58.name, by decide, Try.func58.trans (congrArg some (by kernel_rfl))⟩
  f57 := ⟨Try.f59.name, by decide, Try.func59.trans (congrArg some (by kernel_rfl))⟩
  t0 := Try.underlying0
  a0 := Try.isAgg0
  z0 := Try.sizeOf0
  v0 := Try.zeroValue0
  t3 := Try.underlying3
  a3 := Try.isAgg3
  z3 := Try.sizeOf3
  v3 := Try.zeroValue3
  t4 := Try.underlying4
  a4 := Try.isAgg4
  z4 := Try.sizeOf4
  v4 := Try.zeroValue4
  t5 := Try.underlying5
  a5 := Try.isAgg5
  z5 := Try.sizeOf5
  v5 := Try.zeroValue5
  t9 := Try.underlying9
  a9 := Try.isAgg9
  z9 := Try.sizeOf9
  v9 := Try.zeroValue9
  t22 := Try.underlying30
  a22 := Try.isAgg30
  z22 := Try.sizeOf30
  v22 := Try.zeroValue30
  t25 := Try.underlying51
  a25 := Try.isAgg51
  z25 := Try.sizeOf51
  v25 := Try.zeroValue51
  t39 := Try.underlying42
  a39 := Try.isAgg42
  z39 := Try.sizeOf42
  v39 := Try.zeroValue42
  t45 := Try.underlying56
  a45 := Try.isAgg56
  z45 := Try.sizeOf56
  v45 := Try.zeroValue56
  t46 := Try.underlying57
  a46 := Try.isAgg57
  z46 := Try.sizeOf57
  v46 := Try.zeroValue57
  t50 := Try.underlying61
  a50 := Try.isAgg61
  z50 := Try.sizeOf61
  v50 := Try.zeroValue61
  t53 := Try.underlying64
  a53 := Try.isAgg64
  z53 := Try.sizeOf64
  v53 := Try.zeroValue64
  t55 := Try.underlying66
  a55 := Try.isAgg66
  z55 := Try.sizeOf66
  v55 := Try.zeroValue66
  t66 := Try.underlying67
  a66 := Try.isAgg67
  z66 := Try.sizeOf67
  v66 := Try.zeroValue67
  t70 := Try.underlying71
  a70 := Try.isAgg71
  z70 := Try.sizeOf71
  v70 := Try.zeroValue71
  t76 := Try.underlying73
  a76 := Try.isAgg73
  z76 := Try.sizeOf73
  v76 := Try.zeroValue73
  t77 := Try.underlying74
  a77 := Try.isAgg74
  z77 := Try.sizeOf74
  v77 := Try.zeroValue74 }
end Go.Proofs
