/-
  The law KeysLays, plain: what the printed functions come to is true. Condition: the list's length.
-/
import Derived.Test.YtpimfioeeipnhaaDoorSpecE
import Derived.Test.YtpimfioeeipnhaaDoorKx18
namespace Go.Proofs.YtpimfioeeipnhaaDoor.Pl
open Go.Proofs.YtpimfioeeipnhaaDoor.Hand Go.Proofs.YtpimfioeeipnhaaDoor.K Go.Lib Go.RowKit Go.Proofs.YtpimfioeeipnhaaDoorW.PrintWords Go.Proofs.YtpimfioeeipnhaaDoorW.PrintMore
set_option linter.unusedVariables false
set_option linter.unusedSimpArgs false

theorem fixed_ev5 : Ev (fun k => rhizomelaw03_fixed.f k) true := Ev.of rhizomelaw03_fixed.mono fixed_at

theorem keysLays (a : List Part) (wa : ∀ p ∈ a, WF p) (la : a.length * 40 ≤ 140737488351232) : ∃ k, rhizomelaw03_KeysLays.f k a = some true := by
  refine Ev.rounds (g := fun k => rhizomelaw03_KeysLays.f k a) ?_
  unfold rhizomelaw03_KeysLays.f
  refine Ev.bind (encode_ev a wa) (Ev.bind (rencode_ev a wa (by omega)) (Ev.bind fixed_ev5 ?_))
  simp only [if_true]
  refine Ev.bind (check_ev a wa) ?_
  have : (encR a).2 = chk a := by
    unfold encR
    by_cases h : chk a = 0
    · rw [if_pos h, h]
    · rw [if_neg h]
  rw [this, beq_self_eq_true]
  exact Ev.now _

end Go.Proofs.YtpimfioeeipnhaaDoor.Pl
