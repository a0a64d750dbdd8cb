/-
  What the reference's Same comes to: are the lists one? Condition: the lists' lengths.
-/
import Derived.Test.YtpimfioeeipnhaaDoorSpecC
import Derived.Test.YtpimfioeeipnhaaDoorKx23
namespace Go.Proofs.YtpimfioeeipnhaaDoor.Pl
open Go.Proofs.YtpimfioeeipnhaaDoor.Hand Go.Proofs.YtpimfioeeipnhaaDoor.K Go.Lib Go.RowKit Go.Proofs.YtpimfioeeipnhaaDoorW.PrintWords Go.Proofs.YtpimfioeeipnhaaDoorW.PrintMore
set_option linter.unusedVariables false
set_option linter.unusedSimpArgs false

theorem same_loop (a b : List Part) (hab : a.length = b.length) (hl : a.length ≤ 4611686018427387904) : ∀ (d i : Nat), i + d = a.length →
    ∃ r : Bool, Ev (fun k => rhizomeref03_Same.l0 k a b (i : Int)) r ∧ (r = true ↔ a.drop i = b.drop i)
  | 0, i, h => by
    refine ⟨true, Ev.step (f := fun _ => some true) (fun k => by simp only [rhizomeref03_Same.l0]; rw [if_neg (by omega)]) (Ev.now _), ?_⟩
    rw [List.drop_eq_nil_of_le (by omega), List.drop_eq_nil_of_le (by omega)]
    simp
  | d + 1, i, h => by
    have hi : i < a.length := by omega
    have hj : i < b.length := by omega
    have ea : a.drop i = a[i] :: a.drop (i + 1) := List.drop_eq_getElem_cons hi
    have eb : b.drop i = b[i] :: b.drop (i + 1) := List.drop_eq_getElem_cons hj
    obtain ⟨r, hr, hr2⟩ := same_loop a b hab hl d (i + 1) (by omega)
    have si := same_iff a[i] b[i]
    rw [ea, eb]
    have hs : ∀ k, rhizomeref03_Same.l0 (k + 1) a b (i : Int) = if (!((a[i].f0 == b[i].f0) && ((a[i].f1 == b[i].f1) && ((a[i].f2 == b[i].f2) && (a[i].f3.toList == b[i].f3.toList))))) = true then some false else rhizomeref03_Same.l0 k a b ((i + 1 : Nat) : Int) := fun k => by
      simp only [rhizomeref03_Same.l0]
      rw [if_pos (by omega), if_pos (by omega), if_pos (by omega), rd_nat a i hi, rd_nat b i hj, wrap_succ i (by omega)]
      simp only [Bool.not_and]
    by_cases c : a[i] = b[i]
    · refine ⟨r, Ev.step (fun k => ?_) hr, ?_⟩
      · rw [hs k, si.mpr c]; simp
      · rw [hr2, c]; exact ⟨fun z => by rw [z], fun z => (List.cons.inj z).2⟩
    · refine ⟨false, Ev.step (f := fun _ => some false) (fun k => ?_) (Ev.now _), ?_⟩
      · rw [hs k, Bool.eq_false_iff.mpr (fun z => c (si.mp z))]; simp
      · exact ⟨fun z => (by cases z), fun z => absurd (List.cons.inj z).1 c⟩

theorem same_ev (a b : List Part) (hl : a.length ≤ 4611686018427387904) : ∃ r : Bool, Ev (fun k => rhizomeref03_Same.f k a b) r ∧ (r = true ↔ a = b) := by
  unfold rhizomeref03_Same.f
  by_cases c : a.length = b.length
  · simp only [show ((a.length : Int) = (b.length : Int)) from by omega, if_true]
    simpa using same_loop a b c hl a.length 0 (by omega)
  · simp only [show ¬ ((a.length : Int) = (b.length : Int)) from by omega, if_false]
    exact ⟨false, Ev.now _, by simp; rintro rfl; exact c rfl⟩

end Go.Proofs.YtpimfioeeipnhaaDoor.Pl
