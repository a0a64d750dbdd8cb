/-
  The reader reads a block string. The library's variables are as they were laid.
-/
import Derived.Test.YtbmfmnkfdfdjbaaGreatDoorLB
import Derived.Test.YtbmfmnkfdfdjbaaGreatDoorLD
namespace Go.Proofs.YtbmfmnkfdfdjbaaGreatDoor.D
open Go.RowKit Go.Shelf
set_option linter.unusedVariables false
set_option linter.unusedSimpArgs false

theorem splitK_len (sep : List UInt8) : ∀ (k : Nat) (s : List UInt8), ∀ l ∈ Lib.splitK sep 0 k s, l.length ≤ s.length
  | 0, s, l, h => by
    simp [Lib.splitK] at h
    rw [h]
    exact Nat.le_refl _
  | k + 1, s, l, h => by
    unfold Lib.splitK at h
    split at h
    · simp at h
      rw [h]
      exact Nat.le_refl _
    · rcases List.mem_cons.1 h with h | h
      · rw [h, List.length_take]
        omega
      · have := splitK_len sep k _ l h
        rw [List.length_drop] at this
        omega
theorem linesL_split (s : List UInt8) : linesL s = Lib.splitK [10] 0 (Lib.countB (bs (oneEnd s)) (bs [10])) (oneEnd s) := by
  unfold linesL
  have h := Lib.splitB_data (bs [10]) 0 (Lib.countB (bs (oneEnd s)) (bs [10])) (bs (oneEnd s))
  have e0 : (bs (oneEnd s)).data.toList = oneEnd s := by simp [bs]
  rw [e0] at h
  exact h
theorem lines_le {s l : List UInt8} (h : l ∈ linesL s) : l.length ≤ s.length := by
  rw [linesL_split] at h
  exact Nat.le_trans (splitK_len _ _ _ l h) (oneEnd_le s)
theorem linesL_le (s : List UInt8) : (linesL s).length ≤ s.length + 1 := by
  rw [linesL_len]
  have h := Lib.countB_le (bs [10]) (by decide) (bs (oneEnd s)).size (bs (oneEnd s)) (Nat.le_refl _)
  rw [size_bs] at h
  have := oneEnd_le s
  omega
theorem join_le (B : Nat) : ∀ (L : List (List UInt8)), (∀ l ∈ L, l.length ≤ B) → (Lib.join L [10]).length ≤ L.length * (B + 1)
  | [], _ => by simp [Lib.join_nil]
  | [a], h => by
    rw [Lib.join_one]
    have := h a (by simp)
    simp
    omega
  | a :: b :: t, h => by
    have ih := join_le B (b :: t) (fun l hl => h l (List.mem_cons_of_mem _ hl))
    have ha := h a (by simp)
    have e : Lib.join (a :: b :: t) [10] = a ++ [10] ++ Lib.join (b :: t) [10] := by
      simp [Lib.join, List.intercalate]
    rw [e]
    simp only [List.length_append, List.length_cons, List.length_nil] at ih ⊢
    rw [Nat.succ_mul]
    omega
theorem block_le {s : List UInt8} (hs : s.length ≤ 1100000) : (blockP s).length ≤ 140737488355328 := by
  unfold blockP
  have h1 : ∀ l ∈ trimLines (cutLines (linesL s)), l.length ≤ s.length := by
    intro l hl
    unfold trimLines at hl
    have h2 : l ∈ cutLines (linesL s) := by
      have h3 := List.mem_reverse.1 hl
      have h4 := (List.dropWhile_sublist _).subset h3
      have h5 := List.mem_reverse.1 h4
      exact (List.dropWhile_sublist _).subset h5
    unfold cutLines at h2
    split at h2
    · unfold cutL at h2
      rcases List.mem_append.1 h2 with h | h
      · exact lines_le (List.mem_of_mem_take h)
      · obtain ⟨l', h3, rfl⟩ := List.mem_map.1 h
        have := lines_le (List.mem_of_mem_drop h3)
        rw [List.length_drop]
        omega
    · exact lines_le h2
  have h2 : (trimLines (cutLines (linesL s))).length ≤ s.length + 1 := by
    unfold trimLines
    have h3 := (List.dropWhile_sublist blankL (l := (List.dropWhile blankL (cutLines (linesL s))).reverse)).length_le
    have h4 := (List.dropWhile_sublist blankL (l := cutLines (linesL s))).length_le
    have h5 : (cutLines (linesL s)).length ≤ (linesL s).length := by
      unfold cutLines
      split
      · unfold cutL
        simp
        omega
      · exact Nat.le_refl _
    have h6 := linesL_le s
    rw [List.length_reverse] at h3 ⊢
    omega
  have h3 := join_le s.length _ h1
  refine Nat.le_trans h3 (Nat.le_trans (Nat.mul_le_mul h2 (Nat.le_refl _)) ?_)
  have : (s.length + 1) * (s.length + 1) ≤ 1100001 * 1100001 := Nat.mul_le_mul (by omega) (by omega)
  omega

/-! ### block strings -/
def qqqB : List UInt8 := [34, 34, 34]
def eqqB : List UInt8 := [92, 34, 34, 34]
/-- A block string's raw text from place j on, and its end; none: it does not end. -/
def rawGo (s : List UInt8) : Nat → Nat → Option (List UInt8 × Nat)
  | 0, _ => none
  | d + 1, j =>
    if hasP s j eqqB then (rawGo s d (j + 4)).map fun q => (qqqB ++ q.1, q.2)
    else if hasP s j qqqB then some ([], j + 3)
    else match src (s.drop j) with
      | none => none
      | some (_, k) => (rawGo s d (j + k)).map fun q => ((s.drop j).take k ++ q.1, q.2)
def rawP (s : List UInt8) (j : Nat) : Option (List UInt8 × Nat) := rawGo s (s.length + 1 - j) j
theorem has_room {s p : List UInt8} {j : Nat} (h : hasP s j p = true) (hp : p ≠ []) : j + p.length ≤ s.length := by
  unfold hasP at h
  have h1 := (List.isPrefixOf_iff_prefix.1 h).length_le
  have h2 := List.length_pos_iff.2 hp
  rw [List.length_drop] at h1
  omega
theorem rawGo_eq (s : List UInt8) : ∀ (d e j : Nat), s.length + 1 - j ≤ d → s.length + 1 - j ≤ e → rawGo s d j = rawGo s e j
  | 0, 0, j, _, _ => rfl
  | 0, e + 1, j, h1, h2 => by
    have hd : s.drop j = [] := List.drop_eq_nil_of_le (by omega)
    have h3 : hasP s j eqqB = false := by unfold hasP; rw [hd]; rfl
    have h4 : hasP s j qqqB = false := by unfold hasP; rw [hd]; rfl
    have h5 : src (s.drop j) = none := by rw [hd]; exact src_none (Or.inl rfl)
    simp [rawGo, h3, h4, h5]
  | d + 1, 0, j, h1, h2 => by
    have hd : s.drop j = [] := List.drop_eq_nil_of_le (by omega)
    have h3 : hasP s j eqqB = false := by unfold hasP; rw [hd]; rfl
    have h4 : hasP s j qqqB = false := by unfold hasP; rw [hd]; rfl
    have h5 : src (s.drop j) = none := by rw [hd]; exact src_none (Or.inl rfl)
    simp [rawGo, h3, h4, h5]
  | d + 1, e + 1, j, h1, h2 => by
    simp only [rawGo]
    cases h3 : hasP s j eqqB with
    | true =>
      have := has_room h3 (by decide)
      have e4 := rawGo_eq s d e (j + 4) (by omega) (by omega)
      rw [if_pos rfl, if_pos rfl, e4]
    | false =>
      cases h4 : hasP s j qqqB with
      | true => rfl
      | false =>
        cases hs : src (s.drop j) with
        | none => rfl
        | some p =>
          obtain ⟨c, k⟩ := p
          have hk := src_le hs
          simp only [List.length_drop] at hk
          have e1 := rawGo_eq s d e (j + k) (by omega) (by omega)
          simp only [e1, Bool.false_eq_true, if_false]
theorem rawP_un (s : List UInt8) (j : Nat) (hj : j ≤ s.length) : rawP s j =
    if hasP s j eqqB then (rawP s (j + 4)).map fun q => (qqqB ++ q.1, q.2)
    else if hasP s j qqqB then some ([], j + 3)
    else match src (s.drop j) with
      | none => none
      | some (_, k) => (rawP s (j + k)).map fun q => ((s.drop j).take k ++ q.1, q.2) := by
  obtain ⟨d, hd⟩ : ∃ d, s.length + 1 - j = d + 1 := ⟨s.length - j, by omega⟩
  unfold rawP
  rw [hd]
  simp only [rawGo]
  cases h3 : hasP s j eqqB with
  | true =>
    have := has_room h3 (by decide)
    rw [if_pos rfl, if_pos rfl, rawGo_eq s d (s.length + 1 - (j + 4)) (j + 4) (by omega) (by omega)]
  | false =>
    cases h4 : hasP s j qqqB with
    | true => rfl
    | false =>
      cases hs : src (s.drop j) with
      | none => rfl
      | some p =>
        obtain ⟨c, k⟩ := p
        have hk := src_le hs
        simp only [List.length_drop] at hk
        simp only [Bool.false_eq_true, if_false]
        rw [rawGo_eq s d (s.length + 1 - (j + k)) (j + k) (by omega) (by omega)]

end Go.Proofs.YtbmfmnkfdfdjbaaGreatDoor.D
