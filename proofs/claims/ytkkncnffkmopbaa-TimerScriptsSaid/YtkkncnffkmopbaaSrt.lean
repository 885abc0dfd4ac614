/-
  slices.SortFunc at this program.
-/
import Derived.Shelf.SlSortCmp.NoneTotal
import Derived.Ground.SlsfProg
import Derived.Test.YtkkncnffkmopbaaProg
namespace Go.Proofs.Ytkkncnffkmopbaa
open Go.Shelf
def Try.sortL_ren : Go.Shelf.Ren := ⟨fun | 6 => 22 | 15 => 28 | 14 => 27 | 28 => 39 | 29 => 40 | 20 => 31 | 21 => 32 | 22 => 33 | 23 => 34 | 24 => 35 | 25 => 36 | 26 => 37 | 27 => 38 | 46 => 41 | 47 => 42 | 48 => 43 | 49 => 44 | 50 => 45 | 57 => 46 | n => n, fun | 22 => 36 | 24 => 9 | 25 => 58 | 3 => 3 | 39 => 61 | 0 => 0 | 53 => 71 | 55 => 73 | 4 => 4 | 46 => 65 | 45 => 64 | 50 => 52 | 5 => 5 | 9 => 9 | 66 => 74 | 70 => 78 | 76 => 80 | 77 => 81 | n => n, fun | n => n⟩
theorem Try.sortL : Go.Proofs.SlLaysF.n6 Try.prog Try.sortL_ren := {
  mixed := by kernel_rfl
  f6 := ⟨Try.f22.name, by decide, Try.func22.trans (congrArg some (by kernel_rfl))⟩
  f14 := ⟨Try.f27.name, by decide, Try.func27.trans (congrArg some (by kernel_rfl))⟩
  f15 := Try.func28.trans (congrArg some (by kernel_rfl))
  f20 := ⟨Try.f31.name, by decide, Try.func31.trans (congrArg some (by kernel_rfl))⟩
  f21 := ⟨Try.f32.name, by decide, Try.func32.trans (congrArg some (by kernel_rfl))⟩
  f22 := ⟨Try.f33.name, by decide, Try.func33.trans (congrArg some (by kernel_rfl))⟩
  f23 := ⟨Try.f34.name, by decide, Try.func34.trans (congrArg some (by kernel_rfl))⟩
  f24 := ⟨Try.f35.name, by decide, Try.func35.trans (congrArg some (by kernel_rfl))⟩
  f25 := ⟨Try.f36.name, by decide, Try.func36.trans (congrArg some (by kernel_rfl))⟩
  f26 := ⟨Try.f37.name, by decide, Try.func37.trans (congrArg some (by kernel_rfl))⟩
  f27 := ⟨Try.f38.name, by decide, Try.func38.trans (congrArg some (by kernel_rfl))⟩
  f28 := Try.func39.trans (congrArg some (by kernel_rfl))
  f29 := Try.func40.trans (congrArg some (by kernel_rfl))
  f46 := ⟨Try.f41.name, by decide, Try.func41.trans (congrArg some (by kernel_rfl))⟩
  f47 := Try.func42.trans (congrArg some (by kernel_rfl))
  f48 := Try.func43.trans (congrArg some (by kernel_rfl))
  f49 := ⟨Try.f44.name, by decide, Try.func44.trans (congrArg some (by kernel_rfl))⟩
  f50 := ⟨Try.f45.name, by decide, Try.func45.trans (congrArg some (by kernel_rfl))⟩
  f57 := ⟨Try.f46.name, by decide, Try.func46.trans (congrArg some (by kernel_rfl))⟩
  t0 := Try.underlying0
  a0 := Try.isAgg0
  z0 := Try.sizeOf0
  v0 := Try.zeroValue0
  t3 := Try.underlying3
  a3 := Try.isAgg3
  z3 := Try.sizeOf3
  v3 := Try.zeroValue3
  t4 := Try.underlying4
  a4 := Try.isAgg4
  z4 := Try.sizeOf4
  v4 := Try.zeroValue4
  t5 := Try.underlying5
  a5 := Try.isAgg5
  z5 := Try.sizeOf5
  v5 := Try.zeroValue5
  t9 := Try.underlying9
  a9 := Try.isAgg9
  z9 := Try.sizeOf9
  v9 := Try.zeroValue9
  t22 := Try.underlying36
  a22 := Try.isAgg36
  z22 := Try.sizeOf36
  v22 := Try.zeroValue36
  a24 := Try.isAgg9
  z24 := Try.sizeOf9
  t25 := Try.underlying58
  a25 := Try.isAgg58
  z25 := Try.sizeOf58
  v25 := Try.zeroValue58
  t39 := Try.underlying61
  a39 := Try.isAgg61
  z39 := Try.sizeOf61
  v39 := Try.zeroValue61
  t45 := Try.underlying64
  a45 := Try.isAgg64
  z45 := Try.sizeOf64
  v45 := Try.zeroValue64
  t46 := Try.underlying65
  a46 := Try.isAgg65
  z46 := Try.sizeOf65
  v46 := Try.zeroValue65
  t50 := Try.underlying52
  a50 := Try.isAgg52
  z50 := Try.sizeOf52
  v50 := Try.zeroValue52
  t53 := Try.underlying71
  a53 := Try.isAgg71
  z53 := Try.sizeOf71
  v53 := Try.zeroValue71
  t55 := Try.underlying73
  a55 := Try.isAgg73
  z55 := Try.sizeOf73
  v55 := Try.zeroValue73
  t66 := Try.underlying74
  a66 := Try.isAgg74
  z66 := Try.sizeOf74
  v66 := Try.zeroValue74
  t70 := Try.underlying78
  a70 := Try.isAgg78
  z70 := Try.sizeOf78
  v70 := Try.zeroValue78
  t76 := Try.underlying80
  a76 := Try.isAgg80
  z76 := Try.sizeOf80
  v76 := Try.zeroValue80
  t77 := Try.underlying81
  a77 := Try.isAgg81
  z77 := Try.sizeOf81
  v77 := Try.zeroValue81 }
end Go.Proofs.Ytkkncnffkmopbaa
