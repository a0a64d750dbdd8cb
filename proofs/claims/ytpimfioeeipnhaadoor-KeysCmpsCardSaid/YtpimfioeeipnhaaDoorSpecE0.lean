/-
  What the reference's Check comes to: the same plain function of lists. Condition: the list's length.
-/
import Derived.Test.YtpimfioeeipnhaaDoorSpecA
import Derived.Test.YtpimfioeeipnhaaDoorKx8
namespace Go.Proofs.YtpimfioeeipnhaaDoor.Pl
open Go.Proofs.YtpimfioeeipnhaaDoor.Hand Go.Proofs.YtpimfioeeipnhaaDoor.K Go.Lib Go.RowKit Go.Proofs.YtpimfioeeipnhaaDoorW.PrintWords Go.Proofs.YtpimfioeeipnhaaDoorW.PrintMore
set_option linter.unusedVariables false
set_option linter.unusedSimpArgs false

theorem kindX_eq (a : Int) (h0 : 0 ≤ a) (h1 : a < 18446744073709551616) : kindX a = (a % 9223372036854775808) / 4503599627370496 := by
  unfold kindX
  rw [Int.tmod_eq_emod_of_nonneg h0, Int.tdiv_eq_ediv_of_nonneg (by omega), u64_in _ (by omega) (by omega)]
theorem kindF_eq (a : Int) (h0 : 0 ≤ a) : kindF a = a % 4503599627370496 := by
  unfold kindF
  rw [Int.tmod_eq_emod_of_nonneg h0]

theorem rkind (a : Int) (h0 : 0 ≤ a) (h1 : a < 18446744073709551616) : ∃ k, rhizomeref02_Kind.f a = some k ∧ (k = 4 ↔ 9218868437227405312 < a % 9223372036854775808) := by
  unfold rhizomeref02_Kind.f
  rw [kindX_eq a h0 h1, kindF_eq a h0]
  refine ⟨_, rfl, ?_⟩
  split
  · split
    · exact ⟨fun _ => by omega, fun _ => rfl⟩
    · exact ⟨fun z => (by cases z), fun z => by omega⟩
  · split
    · exact ⟨fun z => (by cases z), fun z => by omega⟩
    · split
      · exact ⟨fun z => (by cases z), fun z => by omega⟩
      · exact ⟨fun z => (by cases z), fun z => by omega⟩

theorem rone_ok (p : Part) (w : WF p) : rhizomeref03_one.f p.f0 p.f1 p.f2 p.f3 = some (okP p) := by
  obtain ⟨k, hk, h4⟩ := rkind p.f2 w.a2 w.b2
  unfold rhizomeref03_one.f okP
  rw [toList_tx, hk, Option.getD_some]
  congr 1
  by_cases c0 : p.f0 = 0
  · rw [if_pos c0, if_pos c0]
  rw [if_neg c0, if_neg c0]
  by_cases c1 : p.f0 = 1
  · rw [if_pos c1, if_pos c1]
    by_cases e : k = 4
    · have := h4.mp e
      rw [if_pos e, decide_eq_false (by omega)]; simp
    · have f : p.f2 % 9223372036854775808 ≤ 9218868437227405312 := by
        have : ¬ 9218868437227405312 < p.f2 % 9223372036854775808 := fun z => e (h4.mpr z)
        omega
      rw [if_neg e, decide_eq_true f, Bool.and_true]
      by_cases s : p.f2 = 9223372036854775808
      · rw [if_pos s, s]; simp
      · rw [if_neg s, bne_iff_ne.mpr s, Bool.and_true]
  rw [if_neg c1, if_neg c1]
  by_cases c2 : p.f0 = 2
  · rw [if_pos c2, if_pos c2]
    by_cases s : 255 < p.f3.size
    · rw [if_pos s, decide_eq_false (by omega), Bool.and_false]
    · rw [if_neg s, decide_eq_true (by omega), Bool.and_true]
  · rw [if_neg c2, if_neg c2]

theorem rcheck_loop (l : List Part) (w : ∀ p ∈ l, WF p) (hl : l.length ≤ 4611686018427387904) : ∀ (d i : Nat), i + d = l.length →
    Ev (fun k => rhizomeref03_Check.l0 k l (i : Int)) (if (l.drop i).all okP then (if 16 < l.length then 30 else 0) else 30)
  | 0, i, h => by
    have : l.drop i = [] := by rw [List.drop_eq_nil_iff]; omega
    rw [this]
    refine Ev.step (f := fun _ => if 16 < l.length then some 30 else some 0) (fun k => ?_) ?_
    · simp only [rhizomeref03_Check.l0]; rw [if_neg (by omega)]
      by_cases c : 16 < l.length
      · rw [if_pos c, if_pos (by omega)]
      · rw [if_neg c, if_neg (by omega)]
    · rw [List.all_nil, if_pos rfl]
      by_cases c : 16 < l.length
      · simp only [if_pos c]; exact Ev.now _
      · simp only [if_neg c]; exact Ev.now _
  | d + 1, i, h => by
    have hi : i < l.length := by omega
    have e : l.drop i = l[i] :: l.drop (i + 1) := List.drop_eq_getElem_cons hi
    have wi := w _ (List.getElem_mem hi)
    have ih := rcheck_loop l w hl d (i + 1) (by omega)
    rw [e, List.all_cons]
    refine Ev.step (f := fun k => if okP l[i] = true then rhizomeref03_Check.l0 k l ((i + 1 : Nat) : Int) else some 30) (fun k => ?_) ?_
    · simp only [rhizomeref03_Check.l0]
      rw [if_pos (by omega), if_pos (by omega), rd_nat l i hi, rone_ok _ wi, Option.bind_some, wrap_succ i (by omega)]
    · by_cases c : okP l[i] = true
      · simp only [c, if_true, Bool.true_and]; exact ih
      · have c' := Bool.eq_false_iff.mpr c
        simp only [c', Bool.false_and, if_false, Bool.false_eq_true]; exact Ev.now _

theorem rcheck_ev (l : List Part) (w : ∀ p ∈ l, WF p) (hl : l.length ≤ 4611686018427387904) : Ev (fun k => rhizomeref03_Check.f k l) (chk l) := by
  unfold rhizomeref03_Check.f chk
  have := rcheck_loop l w hl l.length 0 (by omega)
  rw [List.drop_zero] at this
  by_cases h : 16 < l.length
  · rw [if_pos h]
    rw [if_pos h, ite_self] at this
    exact this
  · rw [if_neg h]
    rw [if_neg h] at this
    exact this

theorem bt_nat (s : ByteArray) (i : Nat) (h : i < s.data.toList.length) : bt s (i : Int) = (s.data.toList[i].toNat : Int) := by
  have h' : i < s.size := by rw [Lib.size_eq]; exact h
  have := bt_at s (i : Int) (by simpa using h')
  rw [← this]
  rfl

end Go.Proofs.YtpimfioeeipnhaaDoor.Pl
