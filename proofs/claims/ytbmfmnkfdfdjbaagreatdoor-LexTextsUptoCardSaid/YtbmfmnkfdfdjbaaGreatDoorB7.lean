/-
  LexTexts: the walk. No condition but the library's variables as laid, and the sizes that are named.
-/
import Derived.Test.YtbmfmnkfdfdjbaaGreatDoorB6
import Derived.Test.YtbmfmnkfdfdjbaaGreatDoorB3
import Derived.Test.YtbmfmnkfdfdjbaaGreatDoorT4
namespace Go.Proofs.YtbmfmnkfdfdjbaaGreatDoor.D
open Go.RowKit Go.Shelf
set_option linter.unusedVariables false
set_option linter.unusedSimpArgs false

set_option maxHeartbeats 4000000 in
set_option maxRecDepth 100000 in
theorem texts_law (w : World) (s : List UInt8) (hs : s.length ≤ 1048576) (hV : Vars w) (h2 : 2 < w.heap.size) :
    Calls Tryz.prog 3 #[.string (bs s)] w fun e w' => e = .returned (.bool true) ∧ Fr (fun _ => False) w w' := by
  have HFX := hid (fixed_c w hV h2)
  have HBK := hid (fun (W : World) (hf : Fr (fun _ => False) w W) => block_text_c W s (hV.stay hf) (by omega) (fun l hl => Nat.le_trans (lines_le hl) (by omega)) (Nat.le_trans (linesL_le s) (by omega)) (block_le (by omega)))
  have HRB := hid (fun W => rblock_c W s (by omega))
  have HQ := hid (fun W => quote_c W s (by omega))
  have HRQ := hid (fun W => rquote_c W s (by omega))
  obtain ⟨b, hb⟩ : ∃ b, b = blockP s := ⟨_, rfl⟩
  obtain ⟨q, hq⟩ : ∃ q, q = quoteB s := ⟨_, rfl⟩
  rw [← hb] at HBK HRB
  rw [← hq] at HQ HRQ
  have e1 : (b == b) = true := by simp
  have e2 : (q == q) = true := by simp
  clear hb hq hV h2
  go_enter Tryz.func3, Tryz.ntmps3
  go_wp2_with fail
  refine HFX.out.mono ?_
  rintro e w2 ⟨rfl, hf2⟩
  have HF2 := hid hf2
  clear hf2
  go_wp2_with fail
  refine (HBK.out _ HF2.out).mono ?_
  rintro e w3 ⟨rfl, hf3⟩
  have HF3 := hid (HF2.out.trans hf3 (fun _ _ f => f))
  clear hf3
  go_wp2_with fail
  refine (HRB.out _).mono ?_
  rintro e w4 ⟨rfl, hf4⟩
  have HF4 := hid (HF3.out.trans hf4 (fun _ _ f => f))
  clear hf4
  go_wp2_with fail
  refine (HQ.out _).mono ?_
  rintro e w5 ⟨rfl, hf5⟩
  have HF5 := hid (HF4.out.trans hf5 (fun _ _ f => f))
  clear hf5
  go_wp2_with fail
  refine (HRQ.out _).mono ?_
  rintro e w6 ⟨rfl, hf6⟩
  have HF6 := hid (HF5.out.trans hf6 (fun _ _ f => f))
  clear hf6
  go_wp2_with fail
  go_ret
  exact ⟨rfl, HF6.out⟩

end Go.Proofs.YtbmfmnkfdfdjbaaGreatDoor.D
