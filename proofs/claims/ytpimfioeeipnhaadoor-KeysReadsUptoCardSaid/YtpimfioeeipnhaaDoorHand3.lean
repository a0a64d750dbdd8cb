/-
  How the model's order of bytes, asked backwards, is said forwards. No condition.
-/
import Derived.Test.YtpimfioeeipnhaaDoorHand2
namespace Go.Proofs.YtpimfioeeipnhaaDoor.Hand
open Go.RowKit

theorem gtr_bytes : ∀ (a b : List UInt8), Op.bytesLess b a = (!Op.bytesLess a b && !(a == b))
  | [], [] => rfl
  | [], _ :: _ => rfl
  | _ :: _, [] => rfl
  | x :: a, y :: b => by
    have ih := gtr_bytes a b
    by_cases h : x = y
    · subst h
      simp [Op.bytesLess, ih]
    · have h' : ¬ y = x := fun e => h e.symm
      by_cases hl : x < y
      · have hg : ¬ y < x := fun e => absurd (UInt8.lt_trans hl e) (UInt8.lt_irrefl _)
        simp [Op.bytesLess, h', hl, hg]
      · have hg : y < x := by
          rw [UInt8.lt_iff_toNat_lt] at *
          have : x.toNat ≠ y.toNat := fun e => h (UInt8.toNat_inj.mp e)
          omega
        simp [Op.bytesLess, h, hl, hg]

end Go.Proofs.YtpimfioeeipnhaaDoor.Hand
