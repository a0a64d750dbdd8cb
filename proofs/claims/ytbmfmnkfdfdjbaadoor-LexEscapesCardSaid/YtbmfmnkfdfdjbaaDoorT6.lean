/-
  Same: the walk, over two slices that read as the same tokens. No condition.
-/
import Derived.Test.YtbmfmnkfdfdjbaaDoorT0
namespace Go.Proofs.YtbmfmnkfdfdjbaaDoor.D
open Go.RowKit Go.Shelf
set_option linter.unusedVariables false
set_option linter.unusedSimpArgs false

set_option maxRecDepth 100000 in
set_option maxHeartbeats 1000000 in
theorem same_c (w : World) (a b : Value) (L : List Tok) (hL : TV w a L) (hM : TV w b L) (h1 : L.length ≤ 1000000) :
    Calls Tryd.prog 13 #[a, b] w fun e w' => e = .returned (.bool true) ∧ Fr (fun _ => False) w w' := by
  obtain ⟨A, ca, rfl, hca, HA⟩ := hL
  obtain ⟨B, cb, rfl, hcb, HB⟩ := hM
  obtain ⟨n, hn⟩ : ∃ n, n = L.length := ⟨_, rfl⟩
  have hn6 : n ≤ 1000000 := by omega
  have e0 : ((n : Int) != (n : Int)) = false := by simp
  have HA := hid HA
  have HB := hid HB
  have HN := hid hn
  rw [← hn]
  clear hca hcb hn
  go_enter Tryd.func13, Tryd.ntmps13
  go_wp2_with fail
  go_loopw [5] (fun v wx => ∃ k : Nat, v = .int .i64 k ∧ k ≤ n ∧ Hid (Fr (fun _ => False) w wx)) (fun v _ => n - (intOf v).toNat)
  case atStart => exact ⟨0, rfl, by omega, hid (Fr.refl _ _)⟩
  case round =>
    obtain ⟨k, rfl, hk, HF⟩ := hrel
    by_cases hkn : k < n
    · have hLk : k < L.length := by have := HN.out; omega
      obtain ⟨t, ht⟩ : ∃ t, L[k]? = some t := ⟨_, List.getElem?_eq_getElem hLk⟩
      obtain ⟨g, o, rfl, hg⟩ := HA.out.resolve_left (by rintro rfl; simp at hLk)
      obtain ⟨g', o', rfl, hg'⟩ := HB.out.resolve_left (by rintro rfl; simp at hLk)
      obtain ⟨a0, a1, a2, a3⟩ := (hg k t ht).stay HF.out
      obtain ⟨b0, b1, b2, b3⟩ := (hg' k t ht).stay HF.out
      have HKN := hid hkn
      clear hg hg' ht hLk
      rw [Nat.mul_comm] at a0 a1 a2 a3 b0 b1 b2 b3
      obtain ⟨t0, t1, t2, t3⟩ := t
      have q1 : (t1 == t1) = true := by simp
      go_wp2_with fail
      go_quiet (fail)
      go_wp2_with fail
      go_roundw
      case rel => exact ⟨k + 1, by go_num, HKN.out, hid (HF.out.trans fr_drewN (fun _ _ f => f))⟩
      case measure => have := HKN.out; simp [intOf]; omega
    · have hkn' : decide ((k : Int) < (n : Int)) = false := by simp; omega
      go_wp2_with fail
      go_ret
      exact ⟨rfl, HF.out⟩

end Go.Proofs.YtbmfmnkfdfdjbaaDoor.D
