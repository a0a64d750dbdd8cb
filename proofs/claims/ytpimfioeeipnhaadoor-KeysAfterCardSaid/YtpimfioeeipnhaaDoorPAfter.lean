/-
  The law KeysAfter, plain: what the printed functions come to is true. Condition: the text is shorter than 2^47.
-/
import Derived.Test.YtpimfioeeipnhaaDoorSpecD
import Derived.Test.YtpimfioeeipnhaaDoorKx33
namespace Go.Proofs.YtpimfioeeipnhaaDoor.Pl
open Go.Proofs.YtpimfioeeipnhaaDoor.Hand Go.Proofs.YtpimfioeeipnhaaDoor.K Go.Lib Go.RowKit Go.Proofs.YtpimfioeeipnhaaDoorW.PrintWords Go.Proofs.YtpimfioeeipnhaaDoorW.PrintMore
set_option linter.unusedVariables false
set_option linter.unusedSimpArgs false

theorem fixed_ev : Ev (fun k => rhizomelaw03_fixed.f k) true := Ev.of rhizomelaw03_fixed.mono fixed_at

theorem after_j0 (s t : ByteArray) : Ev (fun k => rhizomelaw03_KeysAfter.j0 k s t (aftR s.data.toList).1 (aftR s.data.toList).2 (decide (s.data.toList <+: t.data.toList))) true := by
  refine Ev.step (f := fun k => (rhizomelaw03_fixed.f k).bind fun t329 => if t329 = true then _ else some false) (fun k => by simp only [rhizomelaw03_KeysAfter.j0]; rfl) (Ev.bind fixed_ev ?_)
  simp only [if_true, Lib.toList_data]
  cases ha : aft s.data.toList with
  | none =>
    have e : aftR s.data.toList = (⟨#[]⟩, false) := by unfold aftR; rw [ha]
    have hn := aft_none s.data.toList t.data.toList ha
    rw [e]
    simp only [Bool.false_eq_true, if_false]
    simp only [if_true]
    by_cases c : Op.bytesLess t.data.toList s.data.toList = true
    · rw [if_pos c]; exact Ev.now _
    · rw [if_neg c, decide_eq_true (hn.2 (by simpa using c))]; exact Ev.now _
  | some x =>
    have e : aftR s.data.toList = (⟨x.toArray⟩, true) := by unfold aftR; rw [ha]
    have hn := aft_some s.data.toList x t.data.toList ha
    rw [e]
    simp only [if_true]
    by_cases c : Op.bytesLess t.data.toList s.data.toList = true
    · rw [if_pos c, decide_eq_false (fun z => by have := (hn.1 z).1; rw [c] at this; cases this)]; exact Ev.now _
    · rw [if_neg c]
      have hd : decide (s.data.toList <+: t.data.toList) = Op.bytesLess t.data.toList x := by
        cases hl : Op.bytesLess t.data.toList x with
        | true => exact decide_eq_true (hn.2 ⟨by simpa using c, hl⟩)
        | false => exact decide_eq_false (fun z => by have := (hn.1 z).2; rw [hl] at this; cases this)
      rw [hd, beq_self_eq_true]
      exact Ev.now _

theorem prefix_beq (s t : List UInt8) (h : s.length ≤ t.length) : (t.take s.length == s) = decide (s <+: t) := by
  by_cases c : s <+: t
  · rw [decide_eq_true c]
    obtain ⟨r, rfl⟩ := c
    simp
  · rw [decide_eq_false c]
    refine Bool.eq_false_iff.mpr fun z => c ?_
    rw [← eq_of_beq z]
    exact List.take_prefix _ _

theorem keysAfter (s t : ByteArray) (h : s.size ≤ 140737488351232) (h2 : t.size ≤ 140737488351232) : ∃ k, rhizomelaw03_KeysAfter.f k s t = some true := by
  refine Ev.rounds (g := fun k => rhizomelaw03_KeysAfter.f k s t) ?_
  unfold rhizomelaw03_KeysAfter.f
  refine Ev.bind (after_f s (by omega)) ?_
  have hs := Lib.size_eq s
  have ht := Lib.size_eq t
  by_cases c : s.size ≤ t.size
  · have e : ((t.extract 0 ((s.size : Int) : Int).toNat).toList == s.toList) = decide (s.data.toList <+: t.data.toList) := by
      rw [Lib.toList_data, Lib.toList_data, Int.toNat_natCast, Lib.extract_data, hs, ← prefix_beq _ _ (by omega)]
      simp
    rw [e]
    simp only [show ((t.size : Int) ≥ (s.size : Int)) from by omega, show (0 ≤ (s.size : Int)) from by omega, if_true]
    exact after_j0 s t
  · have e : false = decide (s.data.toList <+: t.data.toList) := (decide_eq_false (fun z => c (by have := z.length_le; omega))).symm
    simp only [show ¬ ((t.size : Int) ≥ (s.size : Int)) from by omega, if_false]
    rw [e]
    exact after_j0 s t

end Go.Proofs.YtpimfioeeipnhaaDoor.Pl
