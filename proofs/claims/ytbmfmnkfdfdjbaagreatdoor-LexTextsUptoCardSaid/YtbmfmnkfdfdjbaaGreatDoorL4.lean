/-
  What is ignored. The library's tables are as they were laid.
-/
import Derived.Test.YtbmfmnkfdfdjbaaGreatDoorL3
namespace Go.Proofs.YtbmfmnkfdfdjbaaGreatDoor.D
open Go.RowKit Go.Shelf
set_option linter.unusedVariables false
set_option linter.unusedSimpArgs false

/-- A comment's bytes up to its line's end; false: what comes then is no source character. -/
def comGo : Nat → List UInt8 → Nat × Bool
  | 0, _ => (0, true)
  | k + 1, l =>
    if l = [] then (0, true) else if l.getD 0 0 = 10 ∨ l.getD 0 0 = 13 then (0, true)
    else match src l with
      | none => (0, false)
      | some (_, n) => ((comGo k (l.drop n)).1 + n, (comGo k (l.drop n)).2)
def com (l : List UInt8) : Nat × Bool := comGo l.length l
theorem comGo_eq : ∀ (k m : Nat) (l : List UInt8), l.length ≤ k → l.length ≤ m → comGo k l = comGo m l
  | 0, m, l, h, _ => by
    have : l = [] := List.length_eq_zero_iff.1 (by omega)
    subst this
    cases m with
    | zero => rfl
    | succ m => simp [comGo]
  | k + 1, 0, l, _, h => by
    have : l = [] := List.length_eq_zero_iff.1 (by omega)
    subst this
    simp [comGo]
  | k + 1, m + 1, l, h1, h2 => by
    simp only [comGo]
    by_cases h0 : l = []
    · simp [h0]
    · rw [if_neg h0, if_neg h0]
      split
      · rfl
      · cases hs : src l with
        | none => rfl
        | some p =>
          obtain ⟨c, n⟩ := p
          have := src_le hs
          have e := comGo_eq k m (l.drop n) (by simp; omega) (by simp; omega)
          simp only [e]
theorem com_end {l : List UInt8} (h : l = [] ∨ l.getD 0 0 = 10 ∨ l.getD 0 0 = 13) : com l = (0, true) := by
  unfold com
  cases l with
  | nil => rfl
  | cons a t =>
    simp only [List.length_cons, comGo]
    rw [if_neg (by simp), if_pos (h.resolve_left (by simp))]
theorem com_step {l : List UInt8} (h0 : l ≠ []) (h1 : ¬ (l.getD 0 0 = 10 ∨ l.getD 0 0 = 13)) {c n : Nat} (hs : src l = some (c, n)) : com l = ((com (l.drop n)).1 + n, (com (l.drop n)).2) := by
  unfold com
  obtain ⟨k, hk⟩ : ∃ k, l.length = k + 1 := ⟨l.length - 1, by have := List.length_pos_iff.2 h0; omega⟩
  have hle := src_le hs
  rw [hk]
  simp only [comGo]
  rw [if_neg h0, if_neg h1, hs]
  have e := comGo_eq k (l.drop n).length (l.drop n) (by simp; omega) (Nat.le_refl _)
  simp only [e]
theorem com_bad {l : List UInt8} (h0 : l ≠ []) (h1 : ¬ (l.getD 0 0 = 10 ∨ l.getD 0 0 = 13)) (hs : src l = none) : com l = (0, false) := by
  unfold com
  obtain ⟨k, hk⟩ : ∃ k, l.length = k + 1 := ⟨l.length - 1, by have := List.length_pos_iff.2 h0; omega⟩
  rw [hk]
  simp only [comGo]
  rw [if_neg h0, if_neg h1, hs]
theorem comGo_le : ∀ (k : Nat) (l : List UInt8), (comGo k l).1 ≤ l.length
  | 0, l => by simp [comGo]
  | k + 1, l => by
    simp only [comGo]
    split
    · simp
    split
    · simp
    · cases hs : src l with
      | none => simp
      | some p =>
        obtain ⟨c, n⟩ := p
        have := src_le hs
        have e := comGo_le k (l.drop n)
        simp only [List.length_drop] at e ⊢
        omega
theorem com_le (l : List UInt8) : (com l).1 ≤ l.length := comGo_le _ l

def wsB : List UInt8 := [32, 9, 10, 13, 44]
def markB : List UInt8 := [239, 187, 191]
/-- How many bytes are ignored; false: what comes then is no source character. -/
def ignGo : Nat → List UInt8 → Nat × Bool
  | 0, _ => (0, true)
  | k + 1, l =>
    if l = [] then (0, true)
    else if wsB.contains (l.getD 0 0) then ((ignGo k (l.drop 1)).1 + 1, (ignGo k (l.drop 1)).2)
    else if markB.isPrefixOf l then ((ignGo k (l.drop 3)).1 + 3, (ignGo k (l.drop 3)).2)
    else if l.getD 0 0 = 35 then
      if (com l).2 then ((ignGo k (l.drop (com l).1)).1 + (com l).1, (ignGo k (l.drop (com l).1)).2) else ((com l).1, false)
    else (0, true)
def ign (l : List UInt8) : Nat × Bool := ignGo l.length l

theorem dec_ascii {l : List UInt8} (h0 : l ≠ []) (h : (l.getD 0 0).toNat < 128) : dec l = ((l.getD 0 0).toNat, 1) := Lib.decodeN_ascii _ _ _ _ _ h
theorem src_ascii {l : List UInt8} (h0 : l ≠ []) (h : (l.getD 0 0).toNat < 128) (h2 : 32 ≤ (l.getD 0 0).toNat ∨ (l.getD 0 0).toNat = 9 ∨ (l.getD 0 0).toNat = 10 ∨ (l.getD 0 0).toNat = 13) : src l = some ((l.getD 0 0).toNat, 1) := by
  have hr : rune l = ((l.getD 0 0).toNat, 1) := by
    unfold rune
    rw [if_neg h0, dec_ascii h0 h, if_neg (fun e => by have e : (l.getD 0 0).toNat = 65533 := e.1; omega)]
  rw [src_some (by rw [hr]; show ¬ ((1 : Nat) = 0 ∨ 3 < 1 ∨ ((l.getD 0 0).toNat < 32 ∧ (l.getD 0 0).toNat ≠ 9 ∧ (l.getD 0 0).toNat ≠ 10 ∧ (l.getD 0 0).toNat ≠ 13)); omega), hr]
/-- A comment has its sign. -/
theorem com_pos {l : List UInt8} (h0 : l ≠ []) (h : l.getD 0 0 = 35) : 1 ≤ (com l).1 := by
  have hs := src_ascii h0 (by rw [h]; decide) (by rw [h]; left; decide)
  rw [com_step h0 (by rw [h]; decide) hs]
  simp only
  omega
theorem ignGo_eq : ∀ (k m : Nat) (l : List UInt8), l.length ≤ k → l.length ≤ m → ignGo k l = ignGo m l
  | 0, m, l, h, _ => by
    have : l = [] := List.length_eq_zero_iff.1 (by omega)
    subst this
    cases m with
    | zero => rfl
    | succ m => simp [ignGo]
  | k + 1, 0, l, _, h => by
    have : l = [] := List.length_eq_zero_iff.1 (by omega)
    subst this
    simp [ignGo]
  | k + 1, m + 1, l, h1, h2 => by
    simp only [ignGo]
    by_cases h0 : l = []
    · simp [h0]
    · rw [if_neg h0, if_neg h0]
      have hl := List.length_pos_iff.2 h0
      have e1 := ignGo_eq k m (l.drop 1) (by simp; omega) (by simp; omega)
      have e3 := ignGo_eq k m (l.drop 3) (by simp; omega) (by simp; omega)
      rw [e1, e3]
      by_cases hc : l.getD 0 0 = 35
      · have := com_pos h0 hc
        have e := ignGo_eq k m (l.drop (com l).1) (by simp; omega) (by simp; omega)
        rw [e]
      · simp only [if_neg hc]
section
variable {l : List UInt8} (h0 : l ≠ [])
include h0
theorem ign_un : ∃ k, l.length = k + 1 ∧ ∀ n, 1 ≤ n → ignGo k (l.drop n) = ign (l.drop n) := by
  have := List.length_pos_iff.2 h0
  refine ⟨l.length - 1, by omega, fun n hn => ?_⟩
  exact ignGo_eq _ _ _ (by simp; omega) (Nat.le_refl _)
theorem ign_ws (h : wsB.contains (l.getD 0 0) = true) : ign l = ((ign (l.drop 1)).1 + 1, (ign (l.drop 1)).2) := by
  obtain ⟨k, hk, e⟩ := ign_un h0
  have e1 := e 1 (by omega)
  unfold ign
  rw [hk]
  simp only [ignGo]
  rw [if_neg h0, if_pos h, e1]
  rfl
theorem ign_mark (h : wsB.contains (l.getD 0 0) = false) (h2 : markB.isPrefixOf l = true) : ign l = ((ign (l.drop 3)).1 + 3, (ign (l.drop 3)).2) := by
  obtain ⟨k, hk, e⟩ := ign_un h0
  have e1 := e 3 (by omega)
  unfold ign
  rw [hk]
  simp only [ignGo]
  rw [if_neg h0, if_neg (by rw [h]; decide), if_pos h2, e1]
  rfl
theorem ign_com (h : wsB.contains (l.getD 0 0) = false) (h2 : markB.isPrefixOf l = false) (h3 : l.getD 0 0 = 35) :
    ign l = if (com l).2 then ((ign (l.drop (com l).1)).1 + (com l).1, (ign (l.drop (com l).1)).2) else ((com l).1, false) := by
  obtain ⟨k, hk, e⟩ := ign_un h0
  have e1 := e _ (com_pos h0 h3)
  unfold ign
  rw [hk]
  simp only [ignGo]
  rw [if_neg h0, if_neg (by rw [h]; decide), if_neg (by rw [h2]; decide), if_pos h3, e1]
  rfl
theorem ign_not (h : wsB.contains (l.getD 0 0) = false) (h2 : markB.isPrefixOf l = false) (h3 : l.getD 0 0 ≠ 35) : ign l = (0, true) := by
  obtain ⟨k, hk, e⟩ := ign_un h0
  unfold ign
  rw [hk]
  simp only [ignGo]
  rw [if_neg h0, if_neg (by rw [h]; decide), if_neg (by rw [h2]; decide), if_neg h3]
end
theorem ign_nil : ign [] = (0, true) := rfl
theorem ignGo_le : ∀ (k : Nat) (l : List UInt8), (ignGo k l).1 ≤ l.length
  | 0, l => by simp [ignGo]
  | k + 1, l => by
    have e1 := ignGo_le k (l.drop 1)
    have e3 := ignGo_le k (l.drop 3)
    have e := ignGo_le k (l.drop (com l).1)
    have hc := com_le l
    simp only [List.length_drop] at e1 e3 e
    simp only [ignGo]
    split
    · simp
    · rename_i h0
      have := List.length_pos_iff.2 h0
      split
      · simp only; omega
      split
      · rename_i hm
        have h3 : markB.length ≤ l.length := (List.isPrefixOf_iff_prefix.1 hm).length_le
        have : markB.length = 3 := rfl
        simp only; omega
      split
      · split <;> (simp only; omega)
      · simp
theorem ign_le (l : List UInt8) : (ign l).1 ≤ l.length := ignGo_le _ l

end Go.Proofs.YtbmfmnkfdfdjbaaGreatDoor.D
