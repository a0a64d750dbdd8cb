/-
  WalSectors. No condition.
-/
import Derived.Test.YthmnchemfigneaaWX2
namespace Go.Proofs.Ythmnchemfigneaa.D
open Go.RowKit Go.Maps Go.Shelf
set_option linter.unusedVariables false
set_option linter.unusedSimpArgs false

set_option maxHeartbeats 4000000 in
set_option maxRecDepth 100000 in
theorem sectors_law (n : Int) (r : List UInt8) (hr : r.length ≤ 9223372036854775807) (w : World) :
    Calls Try.prog 3 #[.int .i64 n, .string (bs r)] w fun e w' => e = .returned (.bool true) ∧ Fr (fun _ => False) w w' := by
  obtain ⟨S, hS⟩ : ∃ S, S = secsR n r := ⟨_, rfl⟩
  have H1 := hid (sectors_x w n r hr)
  have H2 := hid (fun W : World => rsectors_c W n r hr)
  rw [← hS] at H1 H2
  obtain ⟨T, c⟩ := S
  have q1 : (T == T) = true := by simp
  have q2 : (c == c) = true := by simp
  clear hS
  go_enter Try.func3, Try.ntmps3
  go_wp2_with fail
  refine H1.out.mono ?_
  rintro e w2 ⟨rfl, hf2⟩
  have HF2 := hid hf2
  clear hf2
  go_wp2_with fail
  refine (H2.out _).mono ?_
  rintro e w3 ⟨rfl, hf3⟩
  have HF3 := hid (HF2.out.trans hf3 (fun _ _ f => f))
  clear hf3
  go_wp2_with fail
  refine (fixed_c _).mono ?_
  rintro e w4 ⟨rfl, hf4⟩
  have HF4 := hid (HF3.out.trans hf4 (fun _ _ f => f))
  clear hf4
  go_wp2_with fail
  go_ret
  exact ⟨rfl, HF4.out⟩

end Go.Proofs.Ythmnchemfigneaa.D
