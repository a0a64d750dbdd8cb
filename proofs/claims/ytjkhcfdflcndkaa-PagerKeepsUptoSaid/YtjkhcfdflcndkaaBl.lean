/-
  Three of strings.Builder's methods over one numbering at this translation, in plain words; what each does. No condition beyond those that each theorem names.
-/
import Derived.Shelf.Strings.BuilderK
import Derived.Test.YtjkhcfdflcndkaaProg
namespace Go.Proofs
open Go.Shelf
def Try.bl_ren : Go.Shelf.Ren := ⟨fun | 166 => 46 | 169 => 48 | 240 => 60 | 276 => 65 | n => n, fun | 70 => 84 | 9 => 9 | 0 => 0 | 72 => 86 | 37 => 36 | 127 => 105 | 3 => 3 | 5 => 5 | 4 => 4 | 20 => 20 | 75 => 89 | 80 => 92 | 164 => 108 | n => n, fun | n => n⟩
theorem Try.bl166 : Go.Proofs.Lays.n166 Try.prog Try.bl_ren := {
  mixed := by kernel_rfl
  f166 := Try.func46.trans (congrArg some (by kernel_rfl))
  f240 := Try.func60.trans (congrArg some (by kernel_rfl))
  f276 := Try.func65.trans (congrArg some (by kernel_rfl))
  t0 := Try.underlying0
  a0 := Try.isAgg0
  z0 := Try.sizeOf0
  v0 := Try.zeroValue0
  t3 := Try.underlying3
  a3 := Try.isAgg3
  z3 := Try.sizeOf3
  v3 := Try.zeroValue3
  t4 := Try.underlying4
  a4 := Try.isAgg4
  z4 := Try.sizeOf4
  v4 := Try.zeroValue4
  t9 := Try.underlying9
  a9 := Try.isAgg9
  z9 := Try.sizeOf9
  v9 := Try.zeroValue9
  t20 := Try.underlying20
  a20 := Try.isAgg20
  z20 := Try.sizeOf20
  v20 := Try.zeroValue20
  t37 := Try.underlying36
  a37 := Try.isAgg36
  z37 := Try.sizeOf36
  v37 := Try.zeroValue36
  t70 := Try.underlying84
  a70 := Try.isAgg84
  z70 := Try.sizeOf84
  v70 := Try.zeroValue84
  t72 := Try.underlying86
  a72 := Try.isAgg86
  z72 := Try.sizeOf86
  v72 := Try.zeroValue86
  t75 := Try.underlying89
  a75 := Try.isAgg89
  z75 := Try.sizeOf89
  v75 := Try.zeroValue89
  t164 := Try.underlying108
  a164 := Try.isAgg108
  z164 := Try.sizeOf108
  v164 := Try.zeroValue108 }
theorem Try.bl169 : Go.Proofs.Lays.n169 Try.prog Try.bl_ren := {
  mixed := by kernel_rfl
  f169 := Try.func48.trans (congrArg some (by kernel_rfl))
  t0 := Try.underlying0
  a0 := Try.isAgg0
  z0 := Try.sizeOf0
  v0 := Try.zeroValue0
  t3 := Try.underlying3
  a3 := Try.isAgg3
  z3 := Try.sizeOf3
  v3 := Try.zeroValue3
  t9 := Try.underlying9
  a9 := Try.isAgg9
  z9 := Try.sizeOf9
  v9 := Try.zeroValue9
  t37 := Try.underlying36
  a37 := Try.isAgg36
  z37 := Try.sizeOf36
  v37 := Try.zeroValue36
  t70 := Try.underlying84
  a70 := Try.isAgg84
  z70 := Try.sizeOf84
  v70 := Try.zeroValue84
  t72 := Try.underlying86
  a72 := Try.isAgg86
  z72 := Try.sizeOf86
  v72 := Try.zeroValue86
  t127 := Try.underlying105
  a127 := Try.isAgg105
  z127 := Try.sizeOf105
  v127 := Try.zeroValue105 }
theorem Try.blX : Builder.Extra Try.prog Try.bl_ren := {
  sizeBuilder := by kernel_rfl
  liesBuilder := by kernel_rfl
  t5 := Try.underlying5
  a5 := Try.isAgg5
  z5 := Try.sizeOf5
  v5 := Try.zeroValue5
  infoByte := by kernel_rfl
  cellsByte := by kernel_rfl
  sizeByte := by kernel_rfl
  neB5 := by decide }
end Go.Proofs
