/-
  A document's tokens, plainly. No condition.
-/
import Derived.Test.YtbmfmnkfdfdjbaaGreatDoorLG
import Derived.Test.YtbmfmnkfdfdjbaaGreatDoorL5
namespace Go.Proofs.YtbmfmnkfdfdjbaaGreatDoor.D
open Go.RowKit Go.Shelf
set_option linter.unusedVariables false
set_option linter.unusedSimpArgs false

theorem textGo_le (s : List UInt8) : ∀ (d j e : Nat) (l : List UInt8), textGo s d j = some (l, e) → j < e ∧ e ≤ s.length
  | 0, j, e, l, h => by cases h
  | d + 1, j, e, l, h => by
    simp only [textGo] at h
    cases hs : src (s.drop j) with
    | none => rw [hs] at h; cases h
    | some p =>
      obtain ⟨c, k⟩ := p
      rw [hs] at h
      have hk := src_le hs
      simp only [List.length_drop] at hk
      simp only at h
      split at h
      · cases h
      · split at h
        · injection h with h
          injection h with h1 h2
          omega
        · split at h
          · obtain ⟨⟨l1, m⟩, h1, h2⟩ := Option.bind_eq_some_iff.1 h
            obtain ⟨⟨l2, e2⟩, h3, h4⟩ := Option.map_eq_some_iff.1 h2
            have a := esc_le h1
            have b := textGo_le s d m e2 l2 h3
            injection h4 with h4 h5
            simp only at h5
            omega
          · obtain ⟨⟨l2, e2⟩, h3, h4⟩ := Option.map_eq_some_iff.1 h
            have b := textGo_le s d (j + k) e2 l2 h3
            injection h4 with h4 h5
            simp only at h5
            omega
theorem textP_le {s : List UInt8} {j e : Nat} {l : List UInt8} (h : textP s j = some (l, e)) : j < e ∧ e ≤ s.length := textGo_le s _ j e l h
theorem rawGo_le (s : List UInt8) : ∀ (d j e : Nat) (l : List UInt8), rawGo s d j = some (l, e) → j < e ∧ e ≤ s.length
  | 0, j, e, l, h => by cases h
  | d + 1, j, e, l, h => by
    simp only [rawGo] at h
    split at h
    · obtain ⟨⟨l2, e2⟩, h3, h4⟩ := Option.map_eq_some_iff.1 h
      have b := rawGo_le s d (j + 4) e2 l2 h3
      injection h4 with h4 h5
      simp only at h5
      omega
    · split at h
      next h1 =>
        have := has_room h1 (by decide)
        injection h with h
        injection h with h2 h3
        have e3 : qqqB.length = 3 := rfl
        omega
      · cases hs : src (s.drop j) with
        | none => rw [hs] at h; cases h
        | some p =>
          obtain ⟨c, k⟩ := p
          rw [hs] at h
          have hk := src_le hs
          obtain ⟨⟨l2, e2⟩, h3, h4⟩ := Option.map_eq_some_iff.1 h
          have b := rawGo_le s d (j + k) e2 l2 h3
          injection h4 with h4 h5
          simp only at h5
          omega
theorem blockS_le {s : List UInt8} {i e : Nat} {l : List UInt8} (h : blockS s i = some (l, e)) : i + 3 < e ∧ e ≤ s.length := by
  unfold blockS at h
  obtain ⟨⟨l2, e2⟩, h3, h4⟩ := Option.map_eq_some_iff.1 h
  have b := rawGo_le s _ (i + 3) e2 l2 h3
  injection h4 with h4 h5
  simp only at h5
  omega
theorem runN_pos {p s : List UInt8} {i : Nat} (hi : i < s.length) (h : p.contains (pk s i) = true) : 1 ≤ runN p (s.drop i) := by
  rw [runN_in hi h]
  omega
theorem let_sub {c : UInt8} (h : letB.contains c = true) : (letB ++ digB).contains c = true := by
  simp only [List.contains_eq_mem, decide_eq_true_eq, List.mem_append] at h ⊢
  exact Or.inl h
theorem tok1_le {s : List UInt8} {i e : Nat} {k : Int} {l : List UInt8} (hi : i < s.length) (h : tok1 s i = .ok (k, l, e)) : i < e ∧ e ≤ s.length := by
  unfold tok1 at h
  split at h
  next h1 =>
    have := has_room h1 (by decide)
    have e3 : dotsB.length = 3 := rfl
    injection h with h; injection h with h1 h; injection h with h1 h
    omega
  · split at h
    · injection h with h; injection h with h1 h; injection h with h1 h
      omega
    · split at h
      next h3 =>
        have a := runN_pos hi (let_sub h3)
        have b := runN_le (letB ++ digB) s i
        injection h with h; injection h with h1 h; injection h with h1 h
        omega
      · split at h
        · cases hn : num s i with
          | none => rw [hn] at h; cases h
          | some p =>
            obtain ⟨e', k'⟩ := p
            rw [hn] at h
            have := num_le (by omega) hn
            injection h with h; injection h with h1 h; injection h with h1 h
            omega
        · split at h
          · cases hn : blockS s i with
            | none => rw [hn] at h; cases h
            | some p =>
              obtain ⟨l', e'⟩ := p
              rw [hn] at h
              have := blockS_le hn
              injection h with h; injection h with h1 h; injection h with h1 h
              omega
          · split at h
            · cases hn : textP s (i + 1) with
              | none => rw [hn] at h; cases h
              | some p =>
                obtain ⟨l', e'⟩ := p
                rw [hn] at h
                have := textP_le hn
                injection h with h; injection h with h1 h; injection h with h1 h
                omega
            · cases h

/-- A token: its kind, what it says, its beginning, its end. -/
structure Tok where
  k : Int
  l : List UInt8
  a : Nat
  e : Nat
/-- The tokens from a place on, so many ahead of them; or the place and number of what is wrong. -/
def lexGo (s : List UInt8) : Nat → Nat → Nat → Except (Nat × Int) (List Tok)
  | 0, _, _ => .ok []
  | d + 1, i, n =>
    if (ign (s.drop i)).2 = false then .error (i + (ign (s.drop i)).1, 50)
    else if i + (ign (s.drop i)).1 = s.length then .ok []
    else if 2048 ≤ n then .error (i + (ign (s.drop i)).1, 53)
    else match tok1 s (i + (ign (s.drop i)).1) with
      | .error c => .error (i + (ign (s.drop i)).1, c)
      | .ok (k, l, e) =>
        match lexGo s d e (n + 1) with
        | .error x => .error x
        | .ok L => .ok (⟨k, l, i + (ign (s.drop i)).1, e⟩ :: L)
def lexAt (s : List UInt8) (i n : Nat) : Except (Nat × Int) (List Tok) := lexGo s (s.length + 1 - i) i n
def lexP (s : List UInt8) : Except (Nat × Int) (List Tok) := if 16384 < s.length then .error (0, 54) else lexAt s 0 0
theorem lexGo_eq (s : List UInt8) : ∀ (d e i n : Nat), i ≤ s.length → s.length + 1 - i ≤ d → s.length + 1 - i ≤ e → lexGo s d i n = lexGo s e i n
  | 0, e, i, n, h0, h1, h2 => by omega
  | d + 1, 0, i, n, h0, h1, h2 => by omega
  | d + 1, e + 1, i, n, h0, h1, h2 => by
    have hg := ign_le (s.drop i)
    rw [List.length_drop] at hg
    simp only [lexGo]
    split
    · rfl
    · split
      · rfl
      · split
        · rfl
        · cases ht : tok1 s (i + (ign (s.drop i)).1) with
          | error c => rfl
          | ok p =>
            obtain ⟨k, l, e1⟩ := p
            have := tok1_le (by omega) ht
            simp only
            rw [lexGo_eq s d e e1 (n + 1) (by omega) (by omega) (by omega)]
theorem lexAt_un (s : List UInt8) (i n : Nat) (hi : i ≤ s.length) : lexAt s i n =
    if (ign (s.drop i)).2 = false then .error (i + (ign (s.drop i)).1, 50)
    else if i + (ign (s.drop i)).1 = s.length then .ok []
    else if 2048 ≤ n then .error (i + (ign (s.drop i)).1, 53)
    else match tok1 s (i + (ign (s.drop i)).1) with
      | .error c => .error (i + (ign (s.drop i)).1, c)
      | .ok (k, l, e) =>
        match lexAt s e (n + 1) with
        | .error x => .error x
        | .ok L => .ok (⟨k, l, i + (ign (s.drop i)).1, e⟩ :: L) := by
  have hg := ign_le (s.drop i)
  rw [List.length_drop] at hg
  unfold lexAt
  obtain ⟨d, hd⟩ : ∃ d, s.length + 1 - i = d + 1 := ⟨s.length - i, by omega⟩
  rw [hd]
  simp only [lexGo]
  split
  · rfl
  · split
    · rfl
    · split
      · rfl
      · cases ht : tok1 s (i + (ign (s.drop i)).1) with
        | error c => rfl
        | ok p =>
          obtain ⟨k, l, e1⟩ := p
          have := tok1_le (by omega) ht
          simp only
          rw [lexGo_eq s d (s.length + 1 - e1) e1 (n + 1) (by omega) (by omega) (by omega)]

end Go.Proofs.YtbmfmnkfdfdjbaaGreatDoor.D
