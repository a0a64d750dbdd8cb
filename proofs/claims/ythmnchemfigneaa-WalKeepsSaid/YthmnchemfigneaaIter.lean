/-
  Five of the library's layings at this translation, in the kit's own plain words. No condition.
-/
import Derived.Shelf.SlIterI.Nil
import Derived.Shelf.SortM.Plain
import Derived.Shelf.SortM.SortNone
import Derived.Ground.GgzProg
import Derived.Shelf.SlMaps.Clone
import Derived.Shelf.SlicesE.Clone
import Derived.Ground.SlgmProg
import Derived.Ground.SlmcProg
import Derived.Ground.SlgnProg
import Derived.Test.YthmnchemfigneaaProg
namespace Go.Proofs
open Go.Shelf
def Try.keysA_ren : Go.Shelf.Ren := ⟨fun | 7 => 61 | 10 => 66 | n => n, fun | 23 => 78 | 26 => 3 | 3 => 9 | 28 => 106 | 0 => 0 | 27 => 105 | 33 => 73 | 4 => 4 | n => n, fun | n => n⟩
theorem Try.keysA : Go.Proofs.SlLaysZI.n7 Try.prog Try.keysA_ren := {
  mixed := by kernel_rfl
  f7 := ⟨Try.f61.name, by decide, Try.func61.trans (congrArg some (by kernel_rfl))⟩
  f10 := ⟨Try.f66.name, by decide, Try.func66.trans (congrArg some (by kernel_rfl))⟩
  t0 := Try.underlying0
  a0 := Try.isAgg0
  z0 := Try.sizeOf0
  v0 := Try.zeroValue0
  t4 := Try.underlying4
  a4 := Try.isAgg4
  z4 := Try.sizeOf4
  v4 := Try.zeroValue4
  t23 := Try.underlying78
  a23 := Try.isAgg78
  z23 := Try.sizeOf78
  v23 := Try.zeroValue78
  t26 := Try.underlying3
  a26 := Try.isAgg3
  z26 := Try.sizeOf3
  v26 := Try.zeroValue3
  t27 := Try.underlying105
  a27 := Try.isAgg105
  z27 := Try.sizeOf105
  v27 := Try.zeroValue105
  t28 := Try.underlying106
  a28 := Try.isAgg106
  z28 := Try.sizeOf106
  v28 := Try.zeroValue106
  t33 := Try.underlying73
  a33 := Try.isAgg73
  z33 := Try.sizeOf73
  v33 := Try.zeroValue73 }
def Try.sortedA_ren : Go.Shelf.Ren := ⟨fun | 6 => 60 | 8 => 64 | 9 => 65 | 11 => 67 | 13 => 69 | 12 => 68 | 23 => 79 | 24 => 80 | 14 => 70 | 15 => 71 | 16 => 72 | 17 => 73 | 18 => 74 | 19 => 75 | 20 => 76 | 21 => 77 | 22 => 78 | 25 => 81 | 26 => 82 | 27 => 83 | 28 => 84 | 29 => 85 | 30 => 86 | 31 => 87 | n => n, fun | 26 => 3 | 28 => 106 | 24 => 48 | 0 => 0 | 3 => 3 | 37 => 99 | 48 => 123 | 50 => 65 | 4 => 4 | 40 => 115 | 39 => 114 | 45 => 120 | 5 => 5 | 9 => 9 | 51 => 125 | 55 => 129 | 57 => 131 | 58 => 132 | 33 => 73 | n => n, fun | n => n⟩
theorem Try.sortedA : Go.Proofs.SlLaysZI.n6 Try.prog Try.sortedA_ren := {
  mixed := by kernel_rfl
  f6 := ⟨Try.f60.name, by decide, Try.func60.trans (congrArg some (by kernel_rfl))⟩
  f8 := ⟨Try.f64.name, by decide, Try.func64.trans (congrArg some (by kernel_rfl))⟩
  f11 := ⟨Try.f67.name, by decide, Try.func67.trans (congrArg some (by kernel_rfl))⟩
  t0 := Try.underlying0
  a0 := Try.isAgg0
  z0 := Try.sizeOf0
  v0 := Try.zeroValue0
  t24 := Try.underlying48
  a24 := Try.isAgg48
  z24 := Try.sizeOf48
  v24 := Try.zeroValue48
  t26 := Try.underlying3
  a26 := Try.isAgg3
  z26 := Try.sizeOf3
  v26 := Try.zeroValue3
  t28 := Try.underlying106
  a28 := Try.isAgg106
  z28 := Try.sizeOf106
  v28 := Try.zeroValue106
  i26 := by kernel_rfl }
def Try.sortA_ren : Go.Shelf.Ren := ⟨fun | 5 => 65 | 8 => 69 | 7 => 68 | 19 => 79 | 20 => 80 | 10 => 70 | 11 => 71 | 12 => 72 | 13 => 73 | 14 => 74 | 15 => 75 | 16 => 76 | 17 => 77 | 18 => 78 | 30 => 81 | 31 => 82 | 32 => 83 | 33 => 84 | 34 => 85 | 35 => 86 | 40 => 87 | n => n, fun | 23 => 48 | 25 => 3 | 3 => 3 | 32 => 99 | 22 => 48 | 0 => 0 | 44 => 123 | 46 => 65 | 4 => 4 | 36 => 115 | 35 => 114 | 41 => 120 | 5 => 5 | 9 => 9 | 53 => 125 | 57 => 129 | 63 => 131 | 64 => 132 | n => n, fun | n => n⟩
theorem Try.sortA : Go.Proofs.SlLaysM.n5 Try.prog Try.sortA_ren := {
  mixed := by kernel_rfl
  f5 := ⟨Try.f65.name, by decide, Try.func65.trans (congrArg some (by kernel_rfl))⟩
  f7 := ⟨Try.f68.name, by decide, Try.func68.trans (congrArg some (by kernel_rfl))⟩
  f8 := Try.func69.trans (congrArg some (by kernel_rfl))
  f10 := ⟨Try.f70.name, by decide, Try.func70.trans (congrArg some (by kernel_rfl))⟩
  f11 := ⟨Try.f71.name, by decide, Try.func71.trans (congrArg some (by kernel_rfl))⟩
  f12 := ⟨Try.f72.name, by decide, Try.func72.trans (congrArg some (by kernel_rfl))⟩
  f13 := ⟨Try.f73.name, by decide, Try.func73.trans (congrArg some (by kernel_rfl))⟩
  f14 := ⟨Try.f74.name, by decide, Try.func74.trans (congrArg some (by kernel_rfl))⟩
  f15 := ⟨Try.f75.name, by decide, Try.func75.trans (congrArg some (by kernel_rfl))⟩
  f16 := ⟨Try.f76.name, by decide, Try.func76.trans (congrArg some (by kernel_rfl))⟩
  f17 := ⟨Try.f77.name, by decide, Try.func77.trans (congrArg some (by kernel_rfl))⟩
  f18 := ⟨Try.f78.name, by decide, Try.func78.trans (congrArg some (by kernel_rfl))⟩
  f19 := Try.func79.trans (congrArg some (by kernel_rfl))
  f20 := Try.func80.trans (congrArg some (by kernel_rfl))
  f30 := ⟨Try.f81.name, by decide, Try.func81.trans (congrArg some (by kernel_rfl))⟩
  f31 := Try.func82.trans (congrArg some (by kernel_rfl))
  f32 := Try.func83.trans (congrArg some (by kernel_rfl))
  f33 := ⟨Try.f84.name, by decide, Try.func84.trans (congrArg some (by kernel_rfl))⟩
  f34 := ⟨Try.f85.name, by decide, Try.func85.trans (congrArg some (by kernel_rfl))⟩
  f35 := ⟨Try.f86.name, by decide, Try.func86.trans (congrArg some (by kernel_rfl))⟩
  f40 := ⟨Try.f87.name, by decide, Try.func87.trans (congrArg some (by kernel_rfl))⟩
  t0 := Try.underlying0
  a0 := Try.isAgg0
  z0 := Try.sizeOf0
  v0 := Try.zeroValue0
  t3 := Try.underlying3
  a3 := Try.isAgg3
  z3 := Try.sizeOf3
  v3 := Try.zeroValue3
  t4 := Try.underlying4
  a4 := Try.isAgg4
  z4 := Try.sizeOf4
  v4 := Try.zeroValue4
  t5 := Try.underlying5
  a5 := Try.isAgg5
  z5 := Try.sizeOf5
  v5 := Try.zeroValue5
  t9 := Try.underlying9
  a9 := Try.isAgg9
  z9 := Try.sizeOf9
  v9 := Try.zeroValue9
  t22 := Try.underlying48
  a22 := Try.isAgg48
  z22 := Try.sizeOf48
  v22 := Try.zeroValue48
  t23 := Try.underlying48
  a23 := Try.isAgg48
  z23 := Try.sizeOf48
  v23 := Try.zeroValue48
  t25 := Try.underlying3
  a25 := Try.isAgg3
  z25 := Try.sizeOf3
  v25 := Try.zeroValue3
  t32 := Try.underlying99
  a32 := Try.isAgg99
  z32 := Try.sizeOf99
  v32 := Try.zeroValue99
  t35 := Try.underlying114
  a35 := Try.isAgg114
  z35 := Try.sizeOf114
  v35 := Try.zeroValue114
  t36 := Try.underlying115
  a36 := Try.isAgg115
  z36 := Try.sizeOf115
  v36 := Try.zeroValue115
  t41 := Try.underlying120
  a41 := Try.isAgg120
  z41 := Try.sizeOf120
  v41 := Try.zeroValue120
  t44 := Try.underlying123
  a44 := Try.isAgg123
  z44 := Try.sizeOf123
  v44 := Try.zeroValue123
  t46 := Try.underlying65
  a46 := Try.isAgg65
  z46 := Try.sizeOf65
  v46 := Try.zeroValue65
  t53 := Try.underlying125
  a53 := Try.isAgg125
  z53 := Try.sizeOf125
  v53 := Try.zeroValue125
  t57 := Try.underlying129
  a57 := Try.isAgg129
  z57 := Try.sizeOf129
  v57 := Try.zeroValue129
  t63 := Try.underlying131
  a63 := Try.isAgg131
  z63 := Try.sizeOf131
  v63 := Try.zeroValue131
  t64 := Try.underlying132
  a64 := Try.isAgg132
  z64 := Try.sizeOf132
  v64 := Try.zeroValue132 }
def Try.cloneS_ren : Go.Shelf.Ren := ⟨fun | 41 => 47 | n => n, fun | 22 => 48 | 23 => 3 | 4 => 4 | n => n, fun | n => n⟩
theorem Try.cloneS : Go.Proofs.SlLaysE0.n41 Try.prog Try.cloneS_ren := {
  mixed := by kernel_rfl
  f41 := ⟨Try.f47.name, by decide, Try.func47.trans (congrArg some (by kernel_rfl))⟩
  t4 := Try.underlying4
  a4 := Try.isAgg4
  z4 := Try.sizeOf4
  v4 := Try.zeroValue4
  t22 := Try.underlying48
  a22 := Try.isAgg48
  z22 := Try.sizeOf48
  v22 := Try.zeroValue48 }
end Go.Proofs
