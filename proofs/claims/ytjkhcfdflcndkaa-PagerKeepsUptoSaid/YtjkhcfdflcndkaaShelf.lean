/-
  The contracts of Go's library at this translation, laid by the kit's own commands in plain words. No condition beyond those that each theorem names.
-/
import Derived.Shelf.Strings.Repeat
import Derived.Ground.SlgnProg
import Derived.Ground.SlgmProg
import Derived.Test.YtjkhcfdflcndkaaProg
namespace Go.Proofs
open Go.Shelf
def Try.lays105_ren : Go.Shelf.Ren := ⟨fun | 105 => 29 | 212 => 43 | 99 => 44 | 165 => 45 | 166 => 46 | 170 => 47 | 169 => 48 | 263 => 57 | 264 => 58 | 206 => 59 | 240 => 60 | 241 => 61 | 276 => 65 | 277 => 66 | n => n, fun | 9 => 9 | 3 => 3 | 4 => 4 | 20 => 20 | 0 => 0 | 46 => 80 | 109 => 81 | 5 => 5 | 72 => 86 | 76 => 90 | 51 => 100 | 146 => 101 | 53 => 97 | 148 => 103 | 70 => 84 | 37 => 36 | 75 => 89 | 127 => 105 | 164 => 108 | 80 => 92 | n => n, fun | n => n⟩
theorem Try.lays105 : Go.Proofs.Lays.n105 Try.prog Try.lays105_ren := {
  mixed := by kernel_rfl
  f99 := Try.func44.trans (congrArg some (by kernel_rfl))
  f105 := Try.func29.trans (congrArg some (by kernel_rfl))
  f165 := Try.func45.trans (congrArg some (by kernel_rfl))
  f166 := Try.func46.trans (congrArg some (by kernel_rfl))
  f169 := Try.func48.trans (congrArg some (by kernel_rfl))
  f170 := Try.func47.trans (congrArg some (by kernel_rfl))
  f206 := Try.func59.trans (congrArg some (by kernel_rfl))
  f212 := Try.func43.trans (congrArg some (by kernel_rfl))
  f240 := Try.func60.trans (congrArg some (by kernel_rfl))
  f241 := Try.func61.trans (congrArg some (by kernel_rfl))
  f263 := Try.func57.trans (congrArg some (by kernel_rfl))
  f264 := Try.func58.trans (congrArg some (by kernel_rfl))
  f276 := Try.func65.trans (congrArg some (by kernel_rfl))
  f277 := Try.func66.trans (congrArg some (by kernel_rfl))
  t0 := Try.underlying0
  a0 := Try.isAgg0
  z0 := Try.sizeOf0
  v0 := Try.zeroValue0
  t3 := Try.underlying3
  a3 := Try.isAgg3
  z3 := Try.sizeOf3
  v3 := Try.zeroValue3
  t4 := Try.underlying4
  a4 := Try.isAgg4
  z4 := Try.sizeOf4
  v4 := Try.zeroValue4
  t5 := Try.underlying5
  a5 := Try.isAgg5
  z5 := Try.sizeOf5
  v5 := Try.zeroValue5
  t9 := Try.underlying9
  a9 := Try.isAgg9
  z9 := Try.sizeOf9
  v9 := Try.zeroValue9
  t20 := Try.underlying20
  a20 := Try.isAgg20
  z20 := Try.sizeOf20
  v20 := Try.zeroValue20
  t37 := Try.underlying36
  a37 := Try.isAgg36
  z37 := Try.sizeOf36
  v37 := Try.zeroValue36
  t46 := Try.underlying80
  a46 := Try.isAgg80
  z46 := Try.sizeOf80
  v46 := Try.zeroValue80
  t51 := Try.underlying100
  a51 := Try.isAgg100
  z51 := Try.sizeOf100
  v51 := Try.zeroValue100
  t53 := Try.underlying97
  a53 := Try.isAgg97
  z53 := Try.sizeOf97
  v53 := Try.zeroValue97
  t70 := Try.underlying84
  a70 := Try.isAgg84
  z70 := Try.sizeOf84
  v70 := Try.zeroValue84
  t72 := Try.underlying86
  a72 := Try.isAgg86
  z72 := Try.sizeOf86
  v72 := Try.zeroValue86
  t75 := Try.underlying89
  a75 := Try.isAgg89
  z75 := Try.sizeOf89
  v75 := Try.zeroValue89
  t76 := Try.underlying90
  a76 := Try.isAgg90
  z76 := Try.sizeOf90
  v76 := Try.zeroValue90
  t109 := Try.underlying81
  a109 := Try.isAgg81
  z109 := Try.sizeOf81
  v109 := Try.zeroValue81
  t127 := Try.underlying105
  a127 := Try.isAgg105
  z127 := Try.sizeOf105
  v127 := Try.zeroValue105
  t146 := Try.underlying101
  a146 := Try.isAgg101
  z146 := Try.sizeOf101
  v146 := Try.zeroValue101
  t148 := Try.underlying103
  a148 := Try.isAgg103
  z148 := Try.sizeOf103
  v148 := Try.zeroValue103
  t164 := Try.underlying108
  a164 := Try.isAgg108
  z164 := Try.sizeOf108
  v164 := Try.zeroValue108 }
theorem Try.Builder_Extra_105 : Builder.Extra Try.prog Try.lays105_ren := {
  sizeBuilder := by kernel_rfl
  liesBuilder := by kernel_rfl
  t5 := Try.underlying5
  a5 := Try.isAgg5
  z5 := Try.sizeOf5
  v5 := Try.zeroValue5
  infoByte := by kernel_rfl
  cellsByte := by kernel_rfl
  sizeByte := by kernel_rfl
  neB5 := by decide }
open Go.RowKit Go.Lib in
/-- THE MAIN CASE: at least two copies of a string that is not empty. (LAID: no walk: one application.) -/
theorem Try.strings_Repeat_main (s : ByteArray) (c : Nat) (w : World) (hc2 : 2 ≤ c) (hc : c ≤ 9223372036854775807) (hlen : s.size * c ≤ 140737488355328) (h0 : 0 < s.size) :
    Calls Try.prog 29 #[.string s, .int .i64 c] w fun e w' => e = .returned (.string ⟨(Lib.repeatL s.data.toList c).toArray⟩) ∧ Below w.heap.size w w' := Any.strings_Repeat_main Try.lays105 Try.Builder_Extra_105 s c w hc2 hc hlen h0
open Go.RowKit Go.Lib in
/-- **strings.Repeat: count ≥ 0, the result within one allocation: count copies of s.** (LAID: no walk: one application.) -/
theorem Try.strings_Repeat (s : ByteArray) (c : Nat) (w : World) (hc : c ≤ 9223372036854775807) (hlen : s.size * c ≤ 140737488355328) :
    Calls Try.prog 29 #[.string s, .int .i64 c] w fun e w' => e = .returned (.string ⟨(Lib.repeatL s.data.toList c).toArray⟩) ∧ Below w.heap.size w w' := Any.strings_Repeat Try.lays105 Try.Builder_Extra_105 s c w hc hlen

end Go.Proofs
