/- Contracts of the functions that a law reaches, written by a program (a changed copy of the kit's print, over contracts of our own). No condition. -/
import Derived.Test.YtpimfioeeipnhaaDoorKx0
namespace Go.Proofs.YtpimfioeeipnhaaDoor.K
open Go.Proofs.YtpimfioeeipnhaaDoor.Hand
open Go.RowKit Go.Proofs.YtpimfioeeipnhaaDoorW.PrintWords Go.Proofs.YtpimfioeeipnhaaDoorW.PrintLast Go.Proofs.YtpimfioeeipnhaaDoorW.PrintMore
attribute [local go_sem] max2_int min2_int max_two min_two max_three min_three max_four min_four   -- for this text's walks alone
set_option linter.unusedVariables false
set_option linter.unusedSimpArgs false

/-! ### floats_Key: function 24 -/
def floats_Key.f (a0 : Int) : Option (Int × Int) := if (Go.bits .andNot .u64 a0 9223372036854775808) > 9218868437227405312 then (some (0, 22)) else (if (Go.bits .and .u64 a0 9223372036854775808) = 0 then (some (IntKind.u64.wrap (9223372036854775808 + (Go.bits .andNot .u64 a0 9223372036854775808)), 0)) else (some (IntKind.u64.wrap (9223372036854775808 - (Go.bits .andNot .u64 a0 9223372036854775808)), 0)))
set_option maxHeartbeats 8000000 in
set_option maxRecDepth 100000 in
theorem floats_Key.calls (a0 : Int) (r1 : Int) (r2 : Int) (w : World) (h : floats_Key.f a0 = some (r1, r2)) :
    Calls Tryd.prog 24 #[.int .u64 a0] w fun e w' => e = .returned (.tuple #[.int .u64 r1, .int .i64 r2]) ∧ Drawn0 w w' := by
  have H : (if (Go.bits .andNot .u64 a0 9223372036854775808) > 9218868437227405312 then (some (0, 22)) else (if (Go.bits .and .u64 a0 9223372036854775808) = 0 then (some (IntKind.u64.wrap (9223372036854775808 + (Go.bits .andNot .u64 a0 9223372036854775808)), 0)) else (some (IntKind.u64.wrap (9223372036854775808 - (Go.bits .andNot .u64 a0 9223372036854775808)), 0)))) = some (r1, r2) := h
  clear h
  by_cases c2 : (Go.bits .andNot .u64 a0 9223372036854775808) > 9218868437227405312
  · rw [if_pos c2] at H
    have c2b0 : decide (9218868437227405312 < (Go.bits .andNot .u64 a0 9223372036854775808)) = true := decide_eq_true c2
    clear c2
    simp only [Option.some.injEq, Prod.mk.injEq] at H
    obtain ⟨rfl, rfl⟩ := H
    go_enter Tryd.func24, Tryd.ntmps24
    go_wp2
    go_ret2
    exact ⟨by first | rfl | (simp; done) | (simp [*]; done), by repeat (first | exact Drawn0.refl _ | apply Drawn0.step)⟩
  · rw [if_neg c2] at H
    have c2b0 : decide (9218868437227405312 < (Go.bits .andNot .u64 a0 9223372036854775808)) = false := decide_eq_false c2
    clear c2
    by_cases c3 : (Go.bits .and .u64 a0 9223372036854775808) = 0
    · rw [if_pos c3] at H
      have c3b0 : ((Go.bits .and .u64 a0 9223372036854775808) == 0) = true := beq_iff_eq.mpr c3
      have c3b1 : ((Go.bits .and .u64 a0 9223372036854775808) != 0) = false := bne_eq_false_iff_eq.mpr c3
      clear c3
      simp only [Option.some.injEq, Prod.mk.injEq] at H
      obtain ⟨rfl, rfl⟩ := H
      go_enter Tryd.func24, Tryd.ntmps24
      go_wp2
      go_ret2
      exact ⟨by first | rfl | (simp; done) | (simp [*]; done), by repeat (first | exact Drawn0.refl _ | apply Drawn0.step)⟩
    · rw [if_neg c3] at H
      have c3b0 : ((Go.bits .and .u64 a0 9223372036854775808) == 0) = false := beq_eq_false_iff_ne.mpr c3
      have c3b1 : ((Go.bits .and .u64 a0 9223372036854775808) != 0) = true := bne_iff_ne.mpr c3
      simp only [Option.some.injEq, Prod.mk.injEq] at H
      obtain ⟨rfl, rfl⟩ := H
      go_enter Tryd.func24, Tryd.ntmps24
      go_wp2
      go_ret2
      exact ⟨by first | rfl | (simp; done) | (simp [*]; done), by repeat (first | exact Drawn0.refl _ | apply Drawn0.step)⟩

end Go.Proofs.YtpimfioeeipnhaaDoor.K
