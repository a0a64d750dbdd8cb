/-
  How whole numbers and texts read. No condition.
-/
import Derived.Test.YtjkhcfdflcndkaaDX
import Derived.ProofKit
import Derived.OpenShut
import Derived.Deep.Fields
import Derived.Deep.Slices
import Derived.ChangeSame
import Derived.Lib.SmallJoins
import Derived.SizedLaws
namespace Go.Proofs.Ytjkhcfdflcndkaa.D
open Go.ChangeShapes Go.WideShapes Go.ChangeAt Go.RowKit Go.Deep Go.Joins
set_option linter.unusedVariables false

theorem bs_of (s : ByteArray) : s = bs s.data.toList := by cases s; simp [bs]
theorem bs_len (s : ByteArray) (h : s.size ≤ maxLen) : s.data.toList.length ≤ 9223372036854775807 := by
  have e : s.data.toList.length = s.size := by simp
  rw [e]; unfold maxLen at h; omega
theorem wf_lo {n : Int} (h : (Lit.int .i64 n).wf = true) : -9223372036854775808 ≤ n ∧ n ≤ 9223372036854775807 := by
  simp [Lit.wf, IntKind.min, IntKind.max, IntKind.bits, IntKind.signed] at h
  omega

end Go.Proofs.Ytjkhcfdflcndkaa.D
