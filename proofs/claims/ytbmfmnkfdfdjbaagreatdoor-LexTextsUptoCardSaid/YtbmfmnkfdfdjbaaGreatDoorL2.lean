/-
  The reader's run over the bytes of a set; a character; a source character. No condition beyond the sizes that are named.
-/
import Derived.Test.YtbmfmnkfdfdjbaaGreatDoorL1
namespace Go.Proofs.YtbmfmnkfdfdjbaaGreatDoor.D
open Go.RowKit Go.Shelf
set_option linter.unusedVariables false
set_option linter.unusedSimpArgs false

theorem ib_c (w : World) (p : List UInt8) (c : UInt8) :
    Calls Tryz.prog 48 #[.string (bs p), .int .u8 c.toNat] w fun e w' => e = .returned (.int .i64 (Lib.indexByte p c)) ∧ w' = w := by
  have h := Tryz.strings_IndexByte (bs p) (c.toNat : Int) w
  have e : ((c.toNat : Int)).toNat.toUInt8 = c := by simp
  rwa [e] at h
theorem ib_in {p : List UInt8} {c : UInt8} (h : p.contains c = true) : ∃ m : Nat, Lib.indexByte p c = (m : Int) ∧ m ≤ p.length := by
  induction p with
  | nil => simp at h
  | cons b l ih =>
    unfold Lib.indexByte
    by_cases hb : b = c
    · subst hb
      exact ⟨0, by simp, by simp⟩
    · have hb' : (b == c) = false := by simpa using hb
      have hl : l.contains c = true := by
        rw [List.contains_cons] at h
        have : (c == b) = false := by simpa using fun e => hb e.symm
        simpa [this] using h
      obtain ⟨m, hm, hle⟩ := ih hl
      refine ⟨m + 1, ?_, by simp; omega⟩
      rw [hb', hm]
      have : ((m : Int) == -1) = false := by simp
      simp [this]
theorem ib_out {p : List UInt8} {c : UInt8} (h : p.contains c = false) : Lib.indexByte p c = -1 := by
  induction p with
  | nil => rfl
  | cons b l ih =>
    rw [List.contains_cons] at h
    simp only [Bool.or_eq_false_iff] at h
    have hb' : (b == c) = false := by have := h.1; simp at this ⊢; exact fun e => this e.symm
    unfold Lib.indexByte
    rw [hb', ih h.2]
    rfl

/-- How many bytes of a set come. -/
def runN (p : List UInt8) (l : List UInt8) : Nat := (l.takeWhile (p.contains ·)).length
theorem runN_in {p s : List UInt8} {j : Nat} (hj : j < s.length) (h : p.contains (pk s j) = true) : runN p (s.drop j) = runN p (s.drop (j + 1)) + 1 := by
  have e : s.drop j = pk s j :: s.drop (j + 1) := by
    rw [List.drop_eq_getElem_cons hj]
    simp [pk, List.getD_eq_getElem?_getD, hj]
  rw [e]
  unfold runN
  rw [List.takeWhile_cons, if_pos h]
  rfl
theorem runN_out {p s : List UInt8} {j : Nat} (h : p.contains (pk s j) = false) : j < s.length → runN p (s.drop j) = 0 := by
  intro hj
  have e : s.drop j = pk s j :: s.drop (j + 1) := by
    rw [List.drop_eq_getElem_cons hj]
    simp [pk, List.getD_eq_getElem?_getD, hj]
  rw [e]
  unfold runN
  rw [List.takeWhile_cons, if_neg (by rw [h]; decide)]
  rfl
theorem runN_end {p s : List UInt8} {j : Nat} (hj : s.length ≤ j) : runN p (s.drop j) = 0 := by
  rw [List.drop_eq_nil_of_le hj]
  rfl
theorem runN_le (p s : List UInt8) (j : Nat) : runN p (s.drop j) ≤ s.length - j := by
  unfold runN
  have := (List.takeWhile_sublist (p.contains ·) (l := s.drop j)).length_le
  simpa using this

set_option maxRecDepth 100000 in
theorem run_c (w : World) (r : Nat) (s : List UInt8) (i f n : Nat) (h : RdAt w r s i f n) (hs : s.length ≤ 1048576) (hi : i ≤ s.length) (p : List UInt8) :
    Calls Tryz.prog 52 #[.pointer (some ⟨r, 0, none⟩), .string (bs p)] w fun x w' => x = .returned (.int .i64 (runN p (s.drop i))) ∧ RdAt w' r s (i + runN p (s.drop i)) f n ∧ Fr (· = r) w w' := by
  have H := hid h
  have HIB := hid (fun W c => ib_c W p c)
  obtain ⟨R, hR⟩ : ∃ R, R = runN p (s.drop i) := ⟨_, rfl⟩
  rw [← hR]
  have HR := hid hR
  clear h hR
  go_enter Tryz.func52, Tryz.ntmps52
  go_wp2_with fail
  go_loopw [5] (fun v wx => ∃ k : Nat, v = .int .i64 k ∧ i + k ≤ s.length ∧ Hid (RdAt wx r s (i + k) f n) ∧ Hid (R = k + runN p (s.drop (i + k))) ∧ Hid (Fr (· = r) w wx)) (fun v _ => s.length - (intOf v).toNat)
  case atStart => exact ⟨0, rfl, by omega, H, hid (by rw [HR.out]; simp), hid (Fr.refl _ _)⟩
  case round =>
    obtain ⟨k, rfl, hk, HA, HQ, HF⟩ := hrel
    have c0 : wr.cell? ⟨r, 0, none⟩ = some (.string (bs s)) := cell_at HA.out 0
    have c1 : wr.cell? ⟨r, 1, none⟩ = some (.int .i64 ((i + k : Nat) : Int)) := cell_at HA.out 1
    have f1 : wr.frozen? ⟨r, 1, none⟩ = false := frozen_at HA.out 1
    have hz := size_bs s
    obtain ⟨j, hj⟩ : ∃ j, j = i + k := ⟨_, rfl⟩
    rw [← hj] at c1 HA HQ hk
    have HJ := hid hj
    have hk2 : k ≤ 1048576 := by omega
    have HK := hid hk
    by_cases hd : j < s.length
    · have hx : ∀ w, (Instr.index 9 (.string (bs s)) (.int .i64 (j : Int))).run Tryz.prog w = .ok (.int .u8 ((pk s j).toNat : Int)) w := fun w => idx_bs _ Tryz.underlying9 w s _ j (by omega) hd
      have HC := hid (fun W => HIB.out W (pk s j))
      have hd' : (j : Int) < (s.length : Int) := by omega
      have HD := hid hd
      cases hb : p.contains (pk s j) with
      | true =>
        obtain ⟨m, hm, hml⟩ := ib_in hb
        have HQ2 := hid (runN_in hd hb)
        rw [hm] at HC
        obtain ⟨v, hv⟩ : ∃ v : Int, v = ((pk s j).toNat : Int) := ⟨_, rfl⟩
        rw [← hv] at hx HC
        have hm0 : (0 : Int) ≤ (m : Int) := by omega
        clear hb hm hv hj hml
        go_wp2_with fail
        go_quiet (first | (go_at_call 48; with_reducible exact Calls.quiet_of_same (HC.out _)))
        go_wp2_with fail
        go_roundw
        case measure => have h1 : j = i + k := HJ.out; have h2 : j < s.length := HD.out; simp [intOf]; omega
        refine ⟨k + 1, by go_num, by have h1 : j = i + k := HJ.out; have h2 : j < s.length := HD.out; omega, hid ?_, hid ?_, hid ?_⟩
        · have := RdAt.move (w := wr.drewN nq) (RdAt.stay HA.out fr_drewN) (j + 1)
          rw [show i + (k + 1) = j + 1 by have := HJ.out; omega]
          simpa using this
        · rw [show i + (k + 1) = j + 1 by have := HJ.out; omega, HQ.out, HQ2.out]
          omega
        · exact (HF.out.trans (fr_no fr_drewN) (fun _ _ e => e)).trans (fr_set1 _ r 1 _) (fun _ _ e => e)
      | false =>
        have HQ2 := hid (runN_out hb hd)
        rw [ib_out hb] at HC
        obtain ⟨v, hv⟩ : ∃ v : Int, v = ((pk s j).toNat : Int) := ⟨_, rfl⟩
        rw [← hv] at hx HC
        clear hb hv hj
        go_wp2_with fail
        go_quiet (first | (go_at_call 48; with_reducible exact Calls.quiet_of_same (HC.out _)))
        go_wp2_with fail
        go_ret
        have hk : R = k := by rw [HQ.out, HQ2.out]; rfl
        refine ⟨by rw [hk]; rfl, ?_, HF.out.trans (fr_no fr_drewN) (fun _ _ e => e)⟩
        rw [hk, ← HJ.out]
        exact RdAt.stay HA.out fr_drewN
    · have HQ2 := hid (runN_end (p := p) (s := s) (j := j) (by omega))
      have hd' : decide ((j : Int) < (s.length : Int)) = false := by simp; omega
      clear hj
      go_wp2_with fail
      go_quiet (first | (go_at_call 48; with_reducible exact Calls.quiet_of_same (HIB.out _ _)))
      go_wp2_with fail
      go_ret
      have hk : R = k := by rw [HQ.out, HQ2.out]; rfl
      refine ⟨by rw [hk]; rfl, ?_, HF.out.trans (fr_no fr_drewN) (fun _ _ e => e)⟩
      rw [hk, ← HJ.out]
      exact RdAt.stay HA.out fr_drewN

end Go.Proofs.YtbmfmnkfdfdjbaaGreatDoor.D
