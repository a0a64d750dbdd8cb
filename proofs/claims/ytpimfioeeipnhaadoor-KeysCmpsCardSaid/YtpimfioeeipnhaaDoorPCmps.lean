/-
  The law KeysCmps, plain: what the printed functions come to is true. Condition: the lists' and the text's lengths.
-/
import Derived.Test.YtpimfioeeipnhaaDoorSpecG
import Derived.Test.YtpimfioeeipnhaaDoorKx29
namespace Go.Proofs.YtpimfioeeipnhaaDoor.Pl
open Go.Proofs.YtpimfioeeipnhaaDoor.Hand Go.Proofs.YtpimfioeeipnhaaDoor.K Go.Lib Go.RowKit Go.Proofs.YtpimfioeeipnhaaDoorW.PrintWords Go.Proofs.YtpimfioeeipnhaaDoorW.PrintMore
set_option linter.unusedVariables false
set_option linter.unusedSimpArgs false

theorem fixed_ev6 : Ev (fun k => rhizomelaw03_fixed.f k) true := Ev.of rhizomelaw03_fixed.mono fixed_at

theorem cmps_end (a b : List Part) : Ev (fun k => rhizomelaw03_KeysCmps.j1 k a b true) true :=
  Ev.step (f := fun _ => some true) (fun k => by simp [rhizomelaw03_KeysCmps.j1]) (Ev.now _)

theorem keysCmps (a b : List Part) (s : ByteArray) (wa : ∀ p ∈ a, WF p) (la : a.length * 40 ≤ 140737488351232) (wb : ∀ p ∈ b, WF p) (lb : b.length * 40 ≤ 140737488351232) (hs : s.size ≤ 140737488351232) : ∃ k, rhizomelaw03_KeysCmps.f k a b s = some true := by
  refine Ev.rounds (g := fun k => rhizomelaw03_KeysCmps.f k a b s) ?_
  unfold rhizomelaw03_KeysCmps.f
  refine Ev.bind (after_f s (by omega)) (Ev.bind (rafter_f s (by omega)) (Ev.bind fixed_ev6 ?_))
  simp only [if_true, bne_self_eq_false]
  refine Ev.step (f := fun k => (rhizomeref03_Check.f k a).bind fun t282 => if t282 = 0 then ((rhizomeref03_Check.f k b).bind fun t283 => rhizomelaw03_KeysCmps.j1 k a b (t283 != 0)) else rhizomelaw03_KeysCmps.j1 k a b true) (fun k => by simp only [rhizomelaw03_KeysCmps.j0, Bool.false_eq_true, if_false]) (Ev.bind (rcheck_ev a wa (by omega)) ?_)
  by_cases ca : chk a = 0
  · simp only [ca, if_true]
    refine Ev.bind (rcheck_ev b wb (by omega)) ?_
    by_cases cb : chk b = 0
    · rw [cb]
      refine Ev.step (f := fun k => (keys_Cmp.f k a b).bind fun t284 => (rhizomeref03_Cmp.f k a b).bind fun t285 => if t284 = t285 then (keys_Cmp.f k b a).bind fun t286 => (rhizomeref03_Cmp.f k a b).bind fun t287 => some (t286 == wrap64 (-t287)) else some false) (fun k => by simp [rhizomelaw03_KeysCmps.j1]) ?_
      refine Ev.bind (cmp_ev a b wa wb ca cb) (Ev.bind (rcmp_ev a b wa wb ca cb) ?_)
      simp only [if_true]
      refine Ev.bind (cmp_ev b a wb wa cb ca) (Ev.bind (rcmp_ev a b wa wb ca cb) ?_)
      have : (cmpP b a == wrap64 (-cmpP a b)) = true := by
        have hw : wrap64 (-cmpP a b) = -cmpP a b := by
          have := cmpP_vals a b
          unfold wrap64
          omega
        rw [cmpP_swap, hw, beq_self_eq_true]
      rw [this]
      exact Ev.now _
    · have : (chk b != 0) = true := bne_iff_ne.mpr cb
      rw [this]
      exact cmps_end a b
  · simp only [if_neg ca]
    exact cmps_end a b

end Go.Proofs.YtpimfioeeipnhaaDoor.Pl
