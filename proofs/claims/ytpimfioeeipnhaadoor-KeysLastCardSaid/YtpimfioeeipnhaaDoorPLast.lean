/-
  The law KeysLast, plain: what the printed functions come to is true. Condition: the list's length.
-/
import Derived.Test.YtpimfioeeipnhaaDoorSpecC
import Derived.Test.YtpimfioeeipnhaaDoorKx34
namespace Go.Proofs.YtpimfioeeipnhaaDoor.Pl
open Go.Proofs.YtpimfioeeipnhaaDoor.Hand Go.Proofs.YtpimfioeeipnhaaDoor.K Go.Lib Go.RowKit Go.Proofs.YtpimfioeeipnhaaDoorW.PrintWords Go.Proofs.YtpimfioeeipnhaaDoorW.PrintMore
set_option linter.unusedVariables false
set_option linter.unusedSimpArgs false

theorem fixed_ev3 : Ev (fun k => rhizomelaw03_fixed.f k) true := Ev.of rhizomelaw03_fixed.mono fixed_at

theorem last_j0 (a b : List Part) (p q : Part) : Ev (fun k => rhizomelaw03_KeysLast.j0 k a b true p.f0 p.f1 p.f2 p.f3 q.f0 q.f1 q.f2 q.f3) true :=
  Ev.step (f := fun k => (rhizomelaw03_fixed.f k).bind fun t => some t) (fun k => by simp only [rhizomelaw03_KeysLast.j0, if_true]) (Ev.bind fixed_ev3 (Ev.now _))

theorem chk_one {l : List Part} {p : Part} (h : chk (l ++ [p]) = 0) : chk [p] = 0 := by
  have := (chk_ok h).2 p (by simp)
  unfold chk
  simp [this]

theorem keysLast (l : List Part) (p q : Part) (w : ∀ p ∈ l, WF p) (hl : l.length * 40 ≤ 140737488351232) (wp : WF p) (wq : WF q) : ∃ k, rhizomelaw03_KeysLast.f k l p.f0 p.f1 p.f2 p.f3 q.f0 q.f1 q.f2 q.f3 = some true := by
  refine Ev.rounds (g := fun k => rhizomelaw03_KeysLast.f k l p.f0 p.f1 p.f2 p.f3 q.f0 q.f1 q.f2 q.f3) ?_
  unfold rhizomelaw03_KeysLast.f
  have wsnoc : ∀ r : Part, WF r → ∀ x ∈ l ++ [r], WF x := fun r hr x hx => by
    rcases List.mem_append.mp hx with h | h
    · exact w x h
    · rw [List.mem_singleton.mp h]; exact hr
  simp only [Option.bind_some, List.nil_append, List.length_nil, List.length_singleton, show (0 + l.length < 3518437208883) from by omega, show (l.length + 1 < 3518437208883) from by omega, if_true]
  refine Ev.bind fixed_ev3 ?_
  simp only [if_true]
  refine Ev.bind (check_ev (l ++ [p]) (wsnoc p wp)) ?_
  by_cases ca : chk (l ++ [p]) = 0
  · simp only [ca, if_true]
    refine Ev.bind (check_ev (l ++ [q]) (wsnoc q wq)) ?_
    by_cases cb : chk (l ++ [q]) = 0
    · simp only [cb]
      refine Ev.step (f := fun k => (keys_Cmp.f k (l ++ [p]) (l ++ [q])).bind fun t360 => (keys_Cmp.f k [p] [q]).bind fun t367 => some (t360 == t367)) (fun k => by simp [rhizomelaw03_KeysLast.j0]) (Ev.bind (cmp_ev _ _ (wsnoc p wp) (wsnoc q wq) ca cb) (Ev.bind (cmp_ev [p] [q] (by simpa using wp) (by simpa using wq) (chk_one ca) (chk_one cb)) ?_))
      rw [cmpP_snoc, beq_self_eq_true]
      exact Ev.now _
    · rw [(chk_vals (l ++ [q])).resolve_left cb]
      exact last_j0 _ _ p q
  · simp only [if_neg ca]
    exact last_j0 _ _ p q

end Go.Proofs.YtpimfioeeipnhaaDoor.Pl
