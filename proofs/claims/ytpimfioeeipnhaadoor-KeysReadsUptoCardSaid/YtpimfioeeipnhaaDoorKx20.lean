/- Contracts of the functions that a law reaches, written by a program (a changed copy of the kit's print, over contracts of our own). No condition. -/
import Derived.Test.YtpimfioeeipnhaaDoorKx0
namespace Go.Proofs.YtpimfioeeipnhaaDoor.K
open Go.Proofs.YtpimfioeeipnhaaDoor.Hand
open Go.RowKit Go.Proofs.YtpimfioeeipnhaaDoorW.PrintWords Go.Proofs.YtpimfioeeipnhaaDoorW.PrintLast Go.Proofs.YtpimfioeeipnhaaDoorW.PrintMore
attribute [local go_sem] max2_int min2_int max_two min_two max_three min_three max_four min_four   -- for this text's walks alone
set_option linter.unusedVariables false
set_option linter.unusedSimpArgs false

/-! ### rhizomeref02_FromKey: function 41 -/
def rhizomeref02_FromKey.j0 : Nat → Int → Bool → Option (Int × Int)
  | 0, _, _ => none
  | k + 1, x0, x9 => if x9 = true then (some (0, 22)) else (if x0 < 9223372036854775808 then (some (IntKind.u64.wrap (9223372036854775808 + (IntKind.u64.wrap (9223372036854775808 - x0))), 0)) else (some (IntKind.u64.wrap (x0 - 9223372036854775808), 0)))
def rhizomeref02_FromKey.f (k : Nat) (a0 : Int) : Option (Int × Int) := if a0 > 18442240474082181120 then (rhizomeref02_FromKey.j0 k a0 true) else (rhizomeref02_FromKey.j0 k a0 (decide (a0 < 4503599627370496)))
theorem rhizomeref02_FromKey.mono_l : ∀ k, (∀ y0 y1, LeO (rhizomeref02_FromKey.j0 k y0 y1) (rhizomeref02_FromKey.j0 (k + 1) y0 y1))
  | 0 => fun _ _ r h => by simp [rhizomeref02_FromKey.j0] at h
  | k + 1 => by
    have ih0 := rhizomeref02_FromKey.mono_l k
    · intro y0 y1
      unfold rhizomeref02_FromKey.j0
      repeat' first
      | (with_reducible exact ih0 _ _)
      | (with_reducible exact LeO.refl _)
      | (with_reducible exact LeO.none _)
      | (with_reducible refine LeO.ite ?_ ?_)
      | (with_reducible refine LeO.bind ?_ (fun _ => ?_))
      | exact ih0 _ _
      | exact LeO.none _
      | refine LeO.ite ?_ ?_
      | refine LeO.bind ?_ (fun _ => ?_)
theorem rhizomeref02_FromKey.mono : ∀ a0 k, LeO (rhizomeref02_FromKey.f k a0) (rhizomeref02_FromKey.f (k + 1) a0) := by
  intro a0 k
  have ih0 := rhizomeref02_FromKey.mono_l k
  unfold rhizomeref02_FromKey.f
  repeat' first
      | (with_reducible exact ih0 _ _)
      | (with_reducible exact LeO.refl _)
      | (with_reducible exact LeO.none _)
      | (with_reducible refine LeO.ite ?_ ?_)
      | (with_reducible refine LeO.bind ?_ (fun _ => ?_))
      | exact ih0 _ _
      | exact LeO.none _
      | refine LeO.ite ?_ ?_
      | refine LeO.bind ?_ (fun _ => ?_)
set_option maxHeartbeats 8000000 in
set_option maxRecDepth 100000 in
theorem rhizomeref02_FromKey.calls (k : Nat) (a0 : Int) (r1 : Int) (r2 : Int) (w : World) (h : rhizomeref02_FromKey.f k a0 = some (r1, r2)) :
    Calls Tryd.prog 41 #[.int .u64 a0] w fun e w' => e = .returned (.tuple #[.int .u64 r1, .int .i64 r2]) ∧ Drawn0 w w' := by
  have H : (if a0 > 18442240474082181120 then (rhizomeref02_FromKey.j0 k a0 true) else (rhizomeref02_FromKey.j0 k a0 (decide (a0 < 4503599627370496)))) = some (r1, r2) := h
  clear h
  have HC2 := Aside0.mk H
  clear H
  go_enter Tryd.func41, Tryd.ntmps41
  go_upto_region 1 with (fail)
  go_cut [9] (fun v9 wc => ∃ (kq : Nat) (x9_1 : Bool), v9 = .bool x9_1 ∧ Aside0 (rhizomeref02_FromKey.j0 kq a0 x9_1 = some (r1, r2)) ∧ Aside0 (kq ≤ k) ∧ Drawn0 w wc)
  case first =>
    have H := HC2.out
    clear HC2
    by_cases c3 : a0 > 18442240474082181120
    · rw [if_pos c3] at H
      have c3b0 : decide (18442240474082181120 < a0) = true := decide_eq_true c3
      clear c3
      (first | rw [c3b0] | (simp only [i64_w, i32_w]; rw [c3b0]) | skip)
      have H' := Aside0.mk H
      clear H
      go_wp2
      go_meet
      case rel => exact ⟨_, (true), (by first | rfl | (simp; done) | (simp [*]; done)), H', ⟨by first | omega | exact Nat.le_refl _⟩, by repeat (first | exact Drawn0.refl _ | apply Drawn0.step)⟩
    · rw [if_neg c3] at H
      have c3b0 : decide (18442240474082181120 < a0) = false := decide_eq_false c3
      clear c3
      (first | rw [c3b0] | (simp only [i64_w, i32_w]; rw [c3b0]) | skip)
      have H' := Aside0.mk H
      clear H
      go_wp2
      go_meet
      case rel => exact ⟨_, (decide (a0 < 4503599627370496)), (by first | rfl | (simp; done) | (simp [*]; done)), H', ⟨by first | omega | exact Nat.le_refl _⟩, by repeat (first | exact Drawn0.refl _ | apply Drawn0.step)⟩
  case rest =>
    clear HC2
    try clear p2
    try clear c3
    try clear c3b0
    obtain ⟨kq, x9_1, rfl, HA, HJ1, ⟨mc1, rfl⟩⟩ := hcut
    cases kq with
    | zero => exact absurd HA.out (by simp [rhizomeref02_FromKey.j0])
    | succ kj1 =>
      have H := HA.out
      clear HA
      simp only [rhizomeref02_FromKey.j0] at H
      by_cases c4 : x9_1 = true
      · subst c4
        have H1 : (some (0, 22)) = some (r1, r2) := by rw [if_pos rfl] at H; exact H
        clear H
        have H := H1
        clear H1
        simp only [Option.some.injEq, Prod.mk.injEq] at H
        obtain ⟨rfl, rfl⟩ := H
        go_wp2
        go_ret2
        exact ⟨by first | rfl | (simp; done) | (simp [*]; done), by repeat (first | exact Drawn0.refl _ | apply Drawn0.step)⟩
      · replace c4 := Bool.eq_false_iff.mpr c4
        subst c4
        have H1 : (if a0 < 9223372036854775808 then (some (IntKind.u64.wrap (9223372036854775808 + (IntKind.u64.wrap (9223372036854775808 - a0))), 0)) else (some (IntKind.u64.wrap (a0 - 9223372036854775808), 0))) = some (r1, r2) := by rw [if_neg (show ¬ (false = true) by decide)] at H; exact H
        clear H
        have H := H1
        clear H1
        by_cases c5 : a0 < 9223372036854775808
        · rw [if_pos c5] at H
          have c5b0 : decide (a0 < 9223372036854775808) = true := decide_eq_true c5
          clear c5
          simp only [Option.some.injEq, Prod.mk.injEq] at H
          obtain ⟨rfl, rfl⟩ := H
          go_wp2
          go_ret2
          exact ⟨by first | rfl | (simp; done) | (simp [*]; done), by repeat (first | exact Drawn0.refl _ | apply Drawn0.step)⟩
        · rw [if_neg c5] at H
          have c5b0 : decide (a0 < 9223372036854775808) = false := decide_eq_false c5
          clear c5
          simp only [Option.some.injEq, Prod.mk.injEq] at H
          obtain ⟨rfl, rfl⟩ := H
          go_wp2
          go_ret2
          exact ⟨by first | rfl | (simp; done) | (simp [*]; done), by repeat (first | exact Drawn0.refl _ | apply Drawn0.step)⟩

end Go.Proofs.YtpimfioeeipnhaaDoor.K
