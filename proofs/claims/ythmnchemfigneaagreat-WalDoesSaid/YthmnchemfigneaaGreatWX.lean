/-
  The log's calls whose answers the document fixes: they are so. No condition.
-/
import Derived.Test.YthmnchemfigneaaGreatV5
import Derived.KernelRfl
namespace Go.Proofs.YthmnchemfigneaaGreat.D
open Go.RowKit Go.Maps Go.Shelf
set_option linter.unusedVariables false
set_option linter.unusedSimpArgs false

def x0 : St := news (imgOf (zero 256))
def l0 : LSt := LSt.begin 1 3 5
def l1 : LSt := (l0.append x0 [97]).1
def x1 : St := (l0.append x0 [97]).2.1
def l2 : LSt := (l1.append x1 (zero 49)).1
def x2 : St := (l1.append x1 (zero 49)).2.1

theorem x0_ok : x0.Ok := news_ok (imgOf_ok _)
theorem y_s1 : ∃ S, secsR 1 [97] = (S, 0) ∧ S.length = 64 ∧ S.getD 7 0 = 1 ∧ S.getD 11 0 = 1 ∧ S.getD 13 0 = 1 ∧ (S.drop 14).take 3 = [82, 87, 97] := ⟨_, rfl, by kernel_rfl, by kernel_rfl, by kernel_rfl, by kernel_rfl, by kernel_rfl⟩
theorem y_s0 : secsR 0 [97] = ([], 1) := by kernel_rfl
theorem y_r0 : walRead x0 0 4 5 = ([], 5, 0) := by kernel_rfl
theorem y_c0 : chk x0 1 3 5 = 0 := by kernel_rfl
theorem y_n0 : x0.n = 5 := by kernel_rfl
theorem y_a1 : (l0.append x0 [97]).2.2 = 0 := by kernel_rfl
theorem y_a2 : (l1.append x1 (zero 49)).2.2 = 0 := by kernel_rfl
theorem y_a3 : l2.append x2 [] = (l2, x2, 182) := by
  unfold LSt.append
  rw [if_neg (by decide +kernel), if_neg (by decide), if_pos (by decide +kernel)]
theorem y_r2 : walRead x2 1 3 5 = ([[97], zero 49], 7, 0) := by kernel_rfl
theorem y_r3 : (walRead x2 2 4 5).2.2 = 180 := by kernel_rfl
theorem y_rm0 : l0.room = 144 := by kernel_rfl
theorem y_rm2 : l2.room = -1 := by kernel_rfl
theorem y_nx2 : l2.next = 7 := by kernel_rfl

/-- What an Append makes of the log and of the disk is a log over a disk. -/
theorem LSt.append_ok {L : LSt} {s : St} (hs : s.Ok) (hL : L.Ok s.n) (r : List UInt8) : (L.append s r).2.1.Ok ∧ (L.append s r).2.1.n = s.n ∧ (L.append s r).1.Ok s.n := by
  have hw := write_ok hs (L.first + L.at_ : Nat) (secsOf L.next r)
  unfold LSt.append
  split
  · exact ⟨hs, rfl, hL⟩
  split
  · exact ⟨hs, rfl, hL⟩
  split
  · exact ⟨hs, rfl, hL⟩
  split
  · exact ⟨hw.1, hw.2, ⟨hL.c1, hL.area, hL.at_, hL.n1, hL.n2⟩⟩
  · rename_i h1 h2 h3 h4
    refine ⟨hw.1, hw.2, ⟨hL.c1, hL.area, ?_, ?_, ?_⟩⟩
    · show L.at_ + many r.length ≤ L.count
      have := hL.at_
      omega
    · show 1 ≤ L.next + 1
      omega
    · show L.next + 1 ≤ _
      omega
theorem l0_ok : l0.Ok x0.n := (LSt.begin_ok y_c0).1
theorem l1_ok : x1.Ok ∧ x1.n = x0.n ∧ l1.Ok x1.n := by
  obtain ⟨h1, h2, h3⟩ := LSt.append_ok x0_ok l0_ok [97]
  exact ⟨h1, h2, by rw [show x1.n = x0.n from h2]; exact h3⟩
theorem l2_ok : x2.Ok ∧ x2.n = x1.n ∧ l2.Ok x2.n := by
  obtain ⟨h1, h2, h3⟩ := LSt.append_ok l1_ok.1 l1_ok.2.2 (zero 49)
  exact ⟨h1, h2, by rw [show x2.n = x1.n from h2]; exact h3⟩

end Go.Proofs.YthmnchemfigneaaGreat.D
