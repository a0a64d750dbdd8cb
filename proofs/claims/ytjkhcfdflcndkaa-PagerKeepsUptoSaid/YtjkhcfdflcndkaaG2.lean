/-
  A pager's small calls: is, told, Root, From, Gen, check, Read. No condition beyond the sizes that are named.
-/
import Derived.Test.YtjkhcfdflcndkaaG1
import Derived.Deep.RegionHeld3
namespace Go.Proofs.Ytjkhcfdflcndkaa.D
open Go.RowKit Go.Maps Go.Shelf
set_option linter.unusedVariables false
set_option linter.unusedSimpArgs false

theorem root_c (w : World) (p g ml mt : Nat) (P : PSt) (h : PAt w p g ml mt P) :
    Calls Try.prog 24 #[.pointer (some ⟨p, 0, none⟩)] w fun e w' => e = .returned (.int .i64 P.root) ∧ w' = w := by
  have c : w.cell? ⟨p, 3, none⟩ = some (.int .i64 P.root) := cell_at h.1 3
  clear h
  go_enter Try.func24, Try.ntmps24
  go_wp2
  go_ret
  exact ⟨rfl, rfl⟩

theorem from_c (w : World) (p g ml mt : Nat) (P : PSt) (h : PAt w p g ml mt P) :
    Calls Try.prog 25 #[.pointer (some ⟨p, 0, none⟩)] w fun e w' => e = .returned (.int .i64 P.from_) ∧ w' = w := by
  have c : w.cell? ⟨p, 4, none⟩ = some (.int .i64 P.from_) := cell_at h.1 4
  clear h
  go_enter Try.func25, Try.ntmps25
  go_wp2
  go_ret
  exact ⟨rfl, rfl⟩

theorem gen_c (w : World) (p g ml mt : Nat) (P : PSt) (h : PAt w p g ml mt P) :
    Calls Try.prog 26 #[.pointer (some ⟨p, 0, none⟩)] w fun e w' => e = .returned (.int .i64 P.gen) ∧ w' = w := by
  have c : w.cell? ⟨p, 5, none⟩ = some (.int .i64 P.gen) := cell_at h.1 5
  clear h
  go_enter Try.func26, Try.ntmps26
  go_wp2
  go_ret
  exact ⟨rfl, rfl⟩

def PSt.is (P : PSt) (k : Int) : Bool := decide (0 ≤ k) && decide (k < P.pages)

theorem is_c (w : World) (p g ml mt : Nat) (P : PSt) (h : PAt w p g ml mt P) (k : Int) :
    Calls Try.prog 36 #[.pointer (some ⟨p, 0, none⟩), .int .i64 k] w fun e w' => e = .returned (.bool (P.is k)) ∧ w' = w := by
  have c : w.cell? ⟨p, 2, none⟩ = some (.int .i64 P.pages) := cell_at h.1 2
  obtain ⟨n, hn⟩ : ∃ n : Nat, n = P.pages := ⟨_, rfl⟩
  have HI := hid (show P.is k = (decide (0 ≤ k) && decide (k < (n : Int))) by rw [hn]; rfl)
  rw [HI.out]
  rw [← hn] at c
  clear h hn
  by_cases h0 : 0 ≤ k
  · by_cases h1 : k < n
    · have d0 : decide (0 ≤ k) = true := decide_eq_true h0
      have d1 : decide (k < (n : Int)) = true := decide_eq_true h1
      rw [d0, d1]
      go_enter Try.func36, Try.ntmps36
      go_wp2
      go_ret
      exact ⟨rfl, rfl⟩
    · have d0 : decide (0 ≤ k) = true := decide_eq_true h0
      have d1 : decide (k < (n : Int)) = false := decide_eq_false h1
      rw [d0, d1]
      go_enter Try.func36, Try.ntmps36
      go_wp2
      go_ret
      exact ⟨rfl, rfl⟩
  · have d0 : decide (0 ≤ k) = false := decide_eq_false h0
    rw [d0]
    go_enter Try.func36, Try.ntmps36
    go_wp2
    go_ret
    exact ⟨rfl, rfl⟩

/-- May a pager be? -/
def pchk (s : St) (f c n : Int) : Int :=
  if f < 2 ∨ c < 1 ∨ 4096 < c ∨ (s.n : Int) < f ∨ (s.n : Int) - f < 8 * c ∨ n < 1 ∨ 1152921504606846976 < n then 190 else if s.dead then 2 else 0

def PSt.told (P : PSt) (e : Int) : PSt := { P with dead := P.dead || e == 2 }
theorem ptold_c (w : World) (p g ml mt : Nat) (P : PSt) (h : PAt w p g ml mt P) (e : Int) :
    Calls Try.prog 33 #[.pointer (some ⟨p, 0, none⟩), .int .i64 e] w fun x w' => x = .returned (.int .i64 e) ∧ PAt w' p g ml mt (P.told e) ∧ Fr (· = p) w w' := by
  have HP := hid h
  have c8 : w.cell? ⟨p, 8, none⟩ = some (.bool P.dead) := cell_at h.1 8
  have f8 : w.frozen? ⟨p, 8, none⟩ = false := frozen_at h.1 8
  have fin : ∀ b : Bool, b = (P.dead || e == 2) → PAt (w.setCell ⟨p, 8, none⟩ (.bool b)) p g ml mt (P.told e) := fun b hb => by
    have hf := fr_set1 w p 8 (.bool b)
    have hne : ∀ x f, SetAt w x f → ¬ (x = p) := fun x f hx e => by
      obtain ⟨n, D, ⟨es, clock, hb, _⟩, _⟩ := hx
      subst e
      rw [h.1] at hb
      cases hb
    refine ⟨?_, h.2.1.keep hf (hne _ _ h.2.1), h.2.2.1.keep hf (hne _ _ h.2.2.1), h.2.2.2⟩
    have := set_at h.1 8 (.bool b)
    rw [this, hb]
    rfl
  have FIN := hid fin
  clear fin h
  cases hd : P.dead with
  | true =>
    rw [hd] at c8
    have HD := hid hd
    clear hd
    go_enter Try.func33, Try.ntmps33
    go_wp2
    go_ret
    exact ⟨rfl, FIN.out _ (by rw [HD.out]; rfl), fr_set1 _ _ _ _⟩
  | false =>
    rw [hd] at c8
    have HD := hid hd
    clear hd
    go_enter Try.func33, Try.ntmps33
    go_wp2
    go_ret
    exact ⟨rfl, FIN.out _ (by rw [HD.out]; rfl), fr_set1 _ _ _ _⟩

end Go.Proofs.Ytjkhcfdflcndkaa.D
