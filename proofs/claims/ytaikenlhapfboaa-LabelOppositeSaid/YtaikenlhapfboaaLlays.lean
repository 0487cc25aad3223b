/- The library contracts that these texts use, laid at this program in plain words (by the shelf's plain mode). -/
import Derived.Shelf.SlSortCmp.NoneTotal
import Derived.Shelf.SlicesG.Cmp
import Derived.Shelf.Small.Strs
import Derived.Ground.SlgcProg
import Derived.Ground.SlsfProg
import Derived.Ground.NamesProg
import Derived.Test.YtaikenlhapfboaaProg
namespace Go.Proofs
open Go.Shelf
def Try.cmpInt_ren : Go.Shelf.Ren := ⟨fun | 5 => 34 | 7 => 46 | n => n, fun | 22 => 2 | 3 => 3 | 4 => 4 | n => n, fun | n => n⟩
theorem Try.cmpInt : Go.Proofs.SlLaysC2.n5 Try.prog Try.cmpInt_ren := {
  mixed := by kernel_rfl
  f5 := ⟨Try.f34.name, by decide, Try.func34.trans (congrArg some (by kernel_rfl))⟩
  f7 := ⟨Try.f46.name, by decide, Try.func46.trans (congrArg some (by kernel_rfl))⟩
  t3 := Try.underlying3
  a3 := Try.isAgg3
  z3 := Try.sizeOf3
  v3 := Try.zeroValue3
  t4 := Try.underlying4
  a4 := Try.isAgg4
  z4 := Try.sizeOf4
  v4 := Try.zeroValue4
  t22 := Try.underlying2
  a22 := Try.isAgg2
  z22 := Try.sizeOf2
  v22 := Try.zeroValue2 }
def Try.strCmp_ren : Go.Shelf.Ren := ⟨fun | 106 => 33 | 213 => 45 | 265 => 52 | n => n, fun | 9 => 9 | 3 => 3 | n => n, fun | n => n⟩
theorem Try.strCmp : Go.Proofs.Lays.n106 Try.prog Try.strCmp_ren := {
  mixed := by kernel_rfl
  f106 := Try.func33.trans (congrArg some (by kernel_rfl))
  f213 := Try.func45.trans (congrArg some (by kernel_rfl))
  f265 := Try.func52.trans (congrArg some (by kernel_rfl))
  t3 := Try.underlying3
  a3 := Try.isAgg3
  z3 := Try.sizeOf3
  v3 := Try.zeroValue3
  t9 := Try.underlying9
  a9 := Try.isAgg9
  z9 := Try.sizeOf9
  v9 := Try.zeroValue9 }
def Try.sortPP_ren : Go.Shelf.Ren := ⟨fun | 6 => 25 | 15 => 32 | 14 => 31 | 28 => 43 | 29 => 44 | 20 => 35 | 21 => 36 | 22 => 37 | 23 => 38 | 24 => 39 | 25 => 40 | 26 => 41 | 27 => 42 | 46 => 47 | 47 => 48 | 48 => 49 | 49 => 50 | 50 => 51 | 57 => 53 | n => n, fun | 22 => 24 | 24 => 32 | 25 => 42 | 3 => 3 | 39 => 48 | 0 => 0 | 53 => 60 | 55 => 62 | 4 => 4 | 46 => 53 | 45 => 52 | 50 => 57 | 5 => 5 | 9 => 9 | 66 => 64 | 70 => 68 | 76 => 70 | 77 => 71 | n => n, fun | n => n⟩
theorem Try.sortPP : Go.Proofs.SlLaysF0.n6 Try.prog Try.sortPP_ren := {
  mixed := by kernel_rfl
  f6 := ⟨Try.f25.name, by decide, Try.func25.trans (congrArg some (by kernel_rfl))⟩
  f14 := ⟨Try.f31.name, by decide, Try.func31.trans (congrArg some (by kernel_rfl))⟩
  f15 := Try.func32.trans (congrArg some (by kernel_rfl))
  f20 := ⟨Try.f35.name, by decide, Try.func35.trans (congrArg some (by kernel_rfl))⟩
  f21 := ⟨Try.f36.name, by decide, Try.func36.trans (congrArg some (by kernel_rfl))⟩
  f22 := ⟨Try.f37.name, by decide, Try.func37.trans (congrArg some (by kernel_rfl))⟩
  f23 := ⟨Try.f38.name, by decide, Try.func38.trans (congrArg some (by kernel_rfl))⟩
  f24 := ⟨Try.f39.name, by decide, Try.func39.trans (congrArg some (by kernel_rfl))⟩
  f25 := ⟨Try.f40.name, by decide, Try.func40.trans (congrArg some (by kernel_rfl))⟩
  f26 := ⟨Try.f41.name, by decide, Try.func41.trans (congrArg some (by kernel_rfl))⟩
  f27 := ⟨Try.f42.name, by decide, Try.func42.trans (congrArg some (by kernel_rfl))⟩
  f28 := Try.func43.trans (congrArg some (by kernel_rfl))
  f29 := Try.func44.trans (congrArg some (by kernel_rfl))
  f46 := ⟨Try.f47.name, by decide, Try.func47.trans (congrArg some (by kernel_rfl))⟩
  f47 := Try.func48.trans (congrArg some (by kernel_rfl))
  f48 := Try.func49.trans (congrArg some (by kernel_rfl))
  f49 := ⟨Try.f50.name, by decide, Try.func50.trans (congrArg some (by kernel_rfl))⟩
  f50 := ⟨Try.f51.name, by decide, Try.func51.trans (congrArg some (by kernel_rfl))⟩
  f57 := ⟨Try.f53.name, by decide, Try.func53.trans (congrArg some (by kernel_rfl))⟩
  t0 := Try.underlying0
  a0 := Try.isAgg0
  z0 := Try.sizeOf0
  v0 := Try.zeroValue0
  t3 := Try.underlying3
  a3 := Try.isAgg3
  z3 := Try.sizeOf3
  v3 := Try.zeroValue3
  t4 := Try.underlying4
  a4 := Try.isAgg4
  z4 := Try.sizeOf4
  v4 := Try.zeroValue4
  t5 := Try.underlying5
  a5 := Try.isAgg5
  z5 := Try.sizeOf5
  v5 := Try.zeroValue5
  t9 := Try.underlying9
  a9 := Try.isAgg9
  z9 := Try.sizeOf9
  v9 := Try.zeroValue9
  t22 := Try.underlying24
  a22 := Try.isAgg24
  z22 := Try.sizeOf24
  v22 := Try.zeroValue24
  t25 := Try.underlying42
  a25 := Try.isAgg42
  z25 := Try.sizeOf42
  v25 := Try.zeroValue42
  t39 := Try.underlying48
  a39 := Try.isAgg48
  z39 := Try.sizeOf48
  v39 := Try.zeroValue48
  t45 := Try.underlying52
  a45 := Try.isAgg52
  z45 := Try.sizeOf52
  v45 := Try.zeroValue52
  t46 := Try.underlying53
  a46 := Try.isAgg53
  z46 := Try.sizeOf53
  v46 := Try.zeroValue53
  t50 := Try.underlying57
  a50 := Try.isAgg57
  z50 := Try.sizeOf57
  v50 := Try.zeroValue57
  t53 := Try.underlying60
  a53 := Try.isAgg60
  z53 := Try.sizeOf60
  v53 := Try.zeroValue60
  t55 := Try.underlying62
  a55 := Try.isAgg62
  z55 := Try.sizeOf62
  v55 := Try.zeroValue62
  t66 := Try.underlying64
  a66 := Try.isAgg64
  z66 := Try.sizeOf64
  v66 := Try.zeroValue64
  t70 := Try.underlying68
  a70 := Try.isAgg68
  z70 := Try.sizeOf68
  v70 := Try.zeroValue68
  t76 := Try.underlying70
  a76 := Try.isAgg70
  z76 := Try.sizeOf70
  v76 := Try.zeroValue70
  t77 := Try.underlying71
  a77 := Try.isAgg71
  z77 := Try.sizeOf71
  v77 := Try.zeroValue71 }
end Go.Proofs
