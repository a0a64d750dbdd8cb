/-
  The library's variables, as a row lays them; a world for the rows' witnesses. No condition.
-/
import Derived.Test.YtbmfmnkfdfdjbaaGreatDoorRows
import Derived.Test.YtbmfmnkfdfdjbaaGreatDoorL3
import Derived.WalkKit
import Derived.ProofKit
import Derived.OpenShut
import Derived.Deep.DeepHandedRow
import Derived.Lib.LaidTab
import Derived.Lib.LaidU8
import Derived.Lay
import Derived.Shelf.Vars
import Derived.SizedLaws
import Derived.Lib.SmallJoins
import Derived.Deep.Slices
import Derived.Deep.Fields
import Derived.ChangeSame
import Derived.Below
namespace Go.Proofs.YtbmfmnkfdfdjbaaGreatDoor.D
open Go.RowKit Go.Shelf
set_option linter.unusedVariables false

theorem own : ownKnob Tryz.prog.godebug = none := by kernel_rfl
theorem laidOut : laidOutB Tryz.prog = true := by kernel_rfl
theorem d_first : Rows.laid_unicode_utf8_first = Lib.firstData := by kernel_rfl
theorem d_accept : (Rows.laid_unicode_utf8_acceptRanges : DataW Unit) = Lib.acceptData := by kernel_rfl
theorem vars_of {W : World} {L : List (String × DataW Unit)} (h : laidMet Tryz.prog L W) (m1 : ("unicode/utf8.first", Rows.laid_unicode_utf8_first) ∈ L) (m2 : ("unicode/utf8.acceptRanges", Rows.laid_unicode_utf8_acceptRanges) ∈ L) (hsh : W.ShapedOpen Tryz.prog) :
    Vars W ∧ 2 < W.heap.size := by
  rw [d_first] at m1
  rw [d_accept] at m2
  have hU : Lib.Utf8Tabs 1 2 W :=
    utf8Tabs_of_reads (ρ := Tryz.lays197_ren) { Tryz.lays197 with } ⟨by kernel_rfl, by kernel_rfl, by kernel_rfl, by kernel_rfl, by kernel_rfl, by kernel_rfl, by kernel_rfl⟩ (Lib.laidMet.reads h m1) (Lib.laidMet.reads h m2)
  have hM : ∃ m, W.cell? ⟨0, 0, none⟩ = some (.int .i64 m) :=
    cell_of_shapedOpen_int (g := 0) (t := 3) (zero := #[.int .i64 0]) hsh (of_decide_eq_true (by kernel_rfl)) (by kernel_rfl) rfl (by kernel_rfl) (by kernel_rfl) Tryz.underlying3
  exact ⟨⟨hU, hM⟩, World.block_lt_of_cell? W _ (hU.2 0 (by omega)).1⟩
theorem wf_i64 {n : Int} (h : (Lit.int .i64 n).wf = true) : -9223372036854775808 ≤ n ∧ n ≤ 9223372036854775807 := by
  simp [Lit.wf, IntKind.min, IntKind.max, IntKind.bits, IntKind.signed] at h
  omega
noncomputable def laidWorld (os : Os) : World := World.laidAll Tryz.prog os Rows.lexTextsRow.laid
theorem laid_met (os : Os) (args : Array Value) : laidMet Tryz.prog Rows.lexTextsRow.laid ((laidWorld os).forCall (fun _ _ => 0) ⟨#[], args, []⟩).memory :=
  laidMet_laidAll _ (by kernel_rfl) (by kernel_rfl)

end Go.Proofs.YtbmfmnkfdfdjbaaGreatDoor.D
