/-
  The calls whose answers the document fixes are answered so: rhizomelaw03_fixed never comes to false. No condition.
-/
import Derived.Test.YtpimfioeeipnhaaDoorKx17
namespace Go.Proofs.YtpimfioeeipnhaaDoor.K
open Go.Proofs.YtpimfioeeipnhaaDoor.Hand
open Go.RowKit Go.Proofs.YtpimfioeeipnhaaDoorW.PrintWords
theorem fixed_at : rhizomelaw03_fixed.f 20 = some true := by kernel_rfl
theorem fixed_true {k : Nat} {t : Bool} (h : rhizomelaw03_fixed.f k = some t) : t = true := by
  have up : ∀ n, rhizomelaw03_fixed.f (k + n) = some t := fun n => by
    induction n with
    | zero => exact h
    | succ n ih => exact rhizomelaw03_fixed.mono (k + n) _ ih
  have up2 : ∀ n, rhizomelaw03_fixed.f (20 + n) = some true := fun n => by
    induction n with
    | zero => exact fixed_at
    | succ n ih => exact rhizomelaw03_fixed.mono (20 + n) _ ih
  have a := up 20
  rw [Nat.add_comm] at a
  rw [up2 k] at a
  exact (Option.some.inj a).symm
end Go.Proofs.YtpimfioeeipnhaaDoor.K
