/- Contracts of the functions that a law reaches, written by a program (a changed copy of the kit's print, over contracts of our own). No condition. -/
import Derived.Test.YtpimfioeeipnhaaDoorKx0
namespace Go.Proofs.YtpimfioeeipnhaaDoor.K
open Go.Proofs.YtpimfioeeipnhaaDoor.Hand
open Go.RowKit Go.Proofs.YtpimfioeeipnhaaDoorW.PrintWords Go.Proofs.YtpimfioeeipnhaaDoorW.PrintLast Go.Proofs.YtpimfioeeipnhaaDoorW.PrintMore
attribute [local go_sem] max2_int min2_int max_two min_two max_three min_three max_four min_four   -- for this text's walks alone
set_option linter.unusedVariables false
set_option linter.unusedSimpArgs false

/-! ### floats_Kind: function 39 -/
def floats_Kind.f (a0 : Int) : Option (Int) := if (Go.bits .andNot .u64 a0 9223372036854775808) = 0 then (some 0) else (if (Go.bits .andNot .u64 a0 9223372036854775808) < 4503599627370496 then (some 1) else (if (Go.bits .andNot .u64 a0 9223372036854775808) < 9218868437227405312 then (some 2) else (if (Go.bits .andNot .u64 a0 9223372036854775808) = 9218868437227405312 then (some 3) else (some 4))))
set_option maxHeartbeats 8000000 in
set_option maxRecDepth 100000 in
theorem floats_Kind.calls (a0 : Int) (r : Int) (w : World) (h : floats_Kind.f a0 = some r) :
    Calls Tryd.prog 39 #[.int .u64 a0] w fun e w' => e = .returned (.int .i64 r) ∧ Drawn0 w w' := by
  have H : (if (Go.bits .andNot .u64 a0 9223372036854775808) = 0 then (some 0) else (if (Go.bits .andNot .u64 a0 9223372036854775808) < 4503599627370496 then (some 1) else (if (Go.bits .andNot .u64 a0 9223372036854775808) < 9218868437227405312 then (some 2) else (if (Go.bits .andNot .u64 a0 9223372036854775808) = 9218868437227405312 then (some 3) else (some 4))))) = some r := h
  clear h
  by_cases c2 : (Go.bits .andNot .u64 a0 9223372036854775808) = 0
  · rw [if_pos c2] at H
    have c2b0 : ((Go.bits .andNot .u64 a0 9223372036854775808) == 0) = true := beq_iff_eq.mpr c2
    have c2b1 : ((Go.bits .andNot .u64 a0 9223372036854775808) != 0) = false := bne_eq_false_iff_eq.mpr c2
    clear c2
    obtain rfl := Option.some.inj H
    go_enter Tryd.func39, Tryd.ntmps39
    go_wp2
    go_ret
    exact ⟨by first | rfl | (simp; done) | (simp [*]; done), by repeat (first | exact Drawn0.refl _ | apply Drawn0.step)⟩
  · rw [if_neg c2] at H
    have c2b0 : ((Go.bits .andNot .u64 a0 9223372036854775808) == 0) = false := beq_eq_false_iff_ne.mpr c2
    have c2b1 : ((Go.bits .andNot .u64 a0 9223372036854775808) != 0) = true := bne_iff_ne.mpr c2
    by_cases c3 : (Go.bits .andNot .u64 a0 9223372036854775808) < 4503599627370496
    · rw [if_pos c3] at H
      have c3b0 : decide ((Go.bits .andNot .u64 a0 9223372036854775808) < 4503599627370496) = true := decide_eq_true c3
      clear c3
      obtain rfl := Option.some.inj H
      go_enter Tryd.func39, Tryd.ntmps39
      go_wp2
      go_ret
      exact ⟨by first | rfl | (simp; done) | (simp [*]; done), by repeat (first | exact Drawn0.refl _ | apply Drawn0.step)⟩
    · rw [if_neg c3] at H
      have c3b0 : decide ((Go.bits .andNot .u64 a0 9223372036854775808) < 4503599627370496) = false := decide_eq_false c3
      clear c3
      by_cases c4 : (Go.bits .andNot .u64 a0 9223372036854775808) < 9218868437227405312
      · rw [if_pos c4] at H
        have c4b0 : decide ((Go.bits .andNot .u64 a0 9223372036854775808) < 9218868437227405312) = true := decide_eq_true c4
        clear c4
        obtain rfl := Option.some.inj H
        go_enter Tryd.func39, Tryd.ntmps39
        go_wp2
        go_ret
        exact ⟨by first | rfl | (simp; done) | (simp [*]; done), by repeat (first | exact Drawn0.refl _ | apply Drawn0.step)⟩
      · rw [if_neg c4] at H
        have c4b0 : decide ((Go.bits .andNot .u64 a0 9223372036854775808) < 9218868437227405312) = false := decide_eq_false c4
        clear c4
        by_cases c5 : (Go.bits .andNot .u64 a0 9223372036854775808) = 9218868437227405312
        · rw [if_pos c5] at H
          have c5b0 : ((Go.bits .andNot .u64 a0 9223372036854775808) == 9218868437227405312) = true := beq_iff_eq.mpr c5
          have c5b1 : ((Go.bits .andNot .u64 a0 9223372036854775808) != 9218868437227405312) = false := bne_eq_false_iff_eq.mpr c5
          clear c5
          obtain rfl := Option.some.inj H
          go_enter Tryd.func39, Tryd.ntmps39
          go_wp2
          go_ret
          exact ⟨by first | rfl | (simp; done) | (simp [*]; done), by repeat (first | exact Drawn0.refl _ | apply Drawn0.step)⟩
        · rw [if_neg c5] at H
          have c5b0 : ((Go.bits .andNot .u64 a0 9223372036854775808) == 9218868437227405312) = false := beq_eq_false_iff_ne.mpr c5
          have c5b1 : ((Go.bits .andNot .u64 a0 9223372036854775808) != 9218868437227405312) = true := bne_iff_ne.mpr c5
          obtain rfl := Option.some.inj H
          go_enter Tryd.func39, Tryd.ntmps39
          go_wp2
          go_ret
          exact ⟨by first | rfl | (simp; done) | (simp [*]; done), by repeat (first | exact Drawn0.refl _ | apply Drawn0.step)⟩

end Go.Proofs.YtpimfioeeipnhaaDoor.K
