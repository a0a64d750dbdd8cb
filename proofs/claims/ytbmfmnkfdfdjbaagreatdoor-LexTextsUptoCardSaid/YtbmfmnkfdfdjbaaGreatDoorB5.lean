/-
  The document's Block: plainly. No condition.
-/
import Derived.Test.YtbmfmnkfdfdjbaaGreatDoorB4
import Derived.Test.YtbmfmnkfdfdjbaaGreatDoorLD
namespace Go.Proofs.YtbmfmnkfdfdjbaaGreatDoor.D
open Go.RowKit Go.Shelf
set_option linter.unusedVariables false
set_option linter.unusedSimpArgs false

/-- A row of texts in block g. -/
def SR (w : World) (g : Nat) (M : List (List UInt8)) : Prop := ∃ cur, w.heap[g]? = some (.cells cur 9) ∧ ∀ j, j < M.length → cur[j]? = some (.string (bs (M.getD j [])))
section
variable {w w' : World} {g : Nat} {M : List (List UInt8)}
theorem SR.cell (h : SR w g M) {j : Nat} (hj : j < M.length) : w.cell? ⟨g, j, none⟩ = some (.string (bs (M.getD j []))) := by
  obtain ⟨cur, h1, h2⟩ := h
  rw [cell_at h1]
  exact h2 j hj
theorem SR.frozen (h : SR w g M) (j : Nat) : w.frozen? ⟨g, j, none⟩ = false := by
  obtain ⟨cur, h1, h2⟩ := h
  exact frozen_at h1 j
theorem SR.keep {A : Nat → Prop} (h : SR w g M) (hf : Fr A w w') (hA : ¬ A g) : SR w' g M := by
  obtain ⟨cur, h1, h2⟩ := h
  exact ⟨cur, hf.at h1 hA, h2⟩
theorem SR.set (h : SR w g M) {k : Nat} (hk : k < M.length) (l : List UInt8) : SR (w.setCell ⟨g, k, none⟩ (.string (bs l))) g (M.set k l) := by
  obtain ⟨cur, h1, h2⟩ := h
  refine ⟨_, set_at h1 k _, fun j hj => ?_⟩
  rw [List.length_set] at hj
  have hkc : k < cur.size := by
    have := h2 k hk
    exact (Array.getElem?_eq_some_iff.1 this).1
  rw [Array.getElem?_setIfInBounds]
  by_cases e : k = j
  · subst e
    rw [if_pos rfl, if_pos hkc, List.getD_eq_getElem?_getD, List.getElem?_set, if_pos rfl, if_pos hk]
    rfl
  · rw [if_neg e, h2 j hj, List.getD_eq_getElem?_getD, List.getD_eq_getElem?_getD, List.getElem?_set, if_neg e]
end
theorem Sw.sr {w : World} {B : Nat} {v : Value} {L : List (List UInt8)} (h : Sw w B v L) : ∃ g cap, v = .slice (some ⟨g, 0, none⟩) L.length cap ∧ L.length ≤ cap ∧ B ≤ g ∧ SR w g L := by
  obtain ⟨⟨h0, h1⟩, g, cap, rfl⟩ := h
  rcases h1 with ⟨e, _⟩ | ⟨g', cap', cur, e, h2, h3, h4, h5, h6, h7⟩
  · cases e
  · injection e with e1 e2 e3
    injection e1 with e1
    injection e1 with e1 _ _
    subst e1 e3
    refine ⟨g, cap, rfl, h4, h2, cur, h3, fun j hj => ?_⟩
    have : (L.map fun l => Value.string (bs l))[j]? = some (.string (bs (L.getD j []))) := by simp [List.getD_eq_getElem?_getD, hj]
    rw [← h7, List.getElem?_take, if_pos (by omega)] at this
    simpa using this
theorem cutTo_step (c k : Nat) (L : List (List UInt8)) (h1 : 1 ≤ k) (hk : k < L.length) : (cutTo c k L).set k ((L.getD k []).drop c) = cutTo c (k + 1) L := by
  refine list_ext (by simp [cutTo_len]) (fun j hj => ?_)
  rw [List.length_set, cutTo_len] at hj
  rw [cutTo_at c (k + 1) L j hj]
  rw [List.getD_eq_getElem?_getD, List.getElem?_set]
  by_cases hjk : k = j
  · subst hjk
    rw [if_pos rfl, if_pos (by rw [cutTo_len]; exact hk), if_pos ⟨h1, by omega⟩]
    rfl
  · rw [if_neg hjk, ← List.getD_eq_getElem?_getD, cutTo_at c k L j hj]
    by_cases h : 1 ≤ j ∧ j < k
    · rw [if_pos h, if_pos ⟨h.1, by omega⟩]
    · rw [if_neg h, if_neg (by omega)]
theorem cutTo_zero (c : Nat) (L : List (List UInt8)) : cutTo c 0 L = L := list_ext (cutTo_len _ _ _) (fun j hj => by
  rw [cutTo_len] at hj
  rw [cutTo_at c 0 L j hj, if_neg (by omega)])
theorem cut_lines (L : List (List UInt8)) : cutLines L = cutTo (commonL L).toNat L.length L := by
  rw [cutTo_all]
  unfold cutLines
  split
  · rfl
  · rename_i h
    rw [show (commonL L).toNat = 0 by omega]
    unfold cutL
    cases L <;> simp

/-! ### the first and the last line that is not blank -/
def fl (M : List (List UInt8)) : Nat → Nat × Nat
  | 0 => (M.length, 0)
  | k + 1 => if blankL (M.getD k []) then fl M k else (min (fl M k).1 k, k + 1)
theorem fl_spec (M : List (List UInt8)) : ∀ k, k ≤ M.length → ((∀ j, j < k → blankL (M.getD j []) = true) ∧ fl M k = (M.length, 0)) ∨
    ((fl M k).1 < (fl M k).2 ∧ (fl M k).2 ≤ k ∧ blankL (M.getD (fl M k).1 []) = false ∧ blankL (M.getD ((fl M k).2 - 1) []) = false ∧ (∀ j, j < (fl M k).1 → blankL (M.getD j []) = true) ∧ (∀ j, (fl M k).2 ≤ j → j < k → blankL (M.getD j []) = true))
  | 0, hk => Or.inl ⟨fun j hj => by omega, rfl⟩
  | k + 1, hk => by
    have ih := fl_spec M k (by omega)
    simp only [fl]
    cases hb : blankL (M.getD k []) with
    | true =>
      rw [if_pos rfl]
      rcases ih with ⟨h1, h2⟩ | ⟨h1, h2, h3, h4, h5, h6⟩
      · refine Or.inl ⟨fun j hj => ?_, h2⟩
        by_cases e : j = k
        · subst e; exact hb
        · exact h1 j (by omega)
      · refine Or.inr ⟨h1, by omega, h3, h4, h5, fun j hj1 hj2 => ?_⟩
        by_cases e : j = k
        · subst e; exact hb
        · exact h6 j hj1 (by omega)
    | false =>
      rw [if_neg (by decide)]
      rcases ih with ⟨h1, h2⟩ | ⟨h1, h2, h3, h4, h5, h6⟩
      · rw [h2]
        have e : min M.length k = k := by omega
        simp only [e]
        exact Or.inr ⟨by omega, by omega, hb, by simpa using hb, h1, fun j hj1 hj2 => by omega⟩
      · have e : min (fl M k).1 k = (fl M k).1 := by omega
        simp only [e]
        exact Or.inr ⟨by omega, by omega, h3, by simpa using hb, h5, fun j hj1 hj2 => by omega⟩
theorem trim_fl (M : List (List UInt8)) : trimLines M = (M.take (fl M M.length).2).drop (fl M M.length).1 := by
  have hg : ∀ j (b : List UInt8), M[j]? = some b → M.getD j [] = b := fun j b h => by rw [List.getD_eq_getElem?_getD, h]; rfl
  unfold trimLines
  rcases fl_spec M M.length (Nat.le_refl _) with ⟨h1, h2⟩ | ⟨h1, h2, h3, h4, h5, h6⟩
  · rw [h2, Lib.dropWhile_drop blankL M M.length (fun j b hj hb => by rw [← hg j b hb]; exact h1 j hj) (fun b hb => by simp at hb) (Nat.le_refl _)]
    simp
  · obtain ⟨F, hF⟩ : ∃ F, F = (fl M M.length).1 := ⟨_, rfl⟩
    obtain ⟨E, hE⟩ : ∃ E, E = (fl M M.length).2 := ⟨_, rfl⟩
    rw [← hF] at h1 h3 h5 ⊢
    rw [← hE] at h1 h2 h4 h6 ⊢
    rw [Lib.dropWhile_drop blankL M F (fun j b hj hb => by rw [← hg j b hb]; exact h5 j hj) (fun b hb => by rw [← hg F b hb]; exact h3) (by omega)]
    have hr : ∀ j, j < M.length - F → (M.drop F).reverse[j]? = M[M.length - 1 - j]? := fun j hj => by
      rw [List.getElem?_reverse (by simp; omega), List.length_drop, List.getElem?_drop]
      congr 1
      omega
    rw [Lib.dropWhile_drop blankL (M.drop F).reverse (M.length - E) (fun j b hj hb => by
      rw [hr j (by omega)] at hb
      rw [← hg _ b hb]
      exact h6 _ (by omega) (by omega)) (fun b hb => by
      rw [hr _ (by omega)] at hb
      rw [← hg _ b hb, show M.length - 1 - (M.length - E) = E - 1 by omega]
      exact h4) (by simp; omega)]
    rw [List.drop_reverse, List.reverse_reverse, List.drop_take, List.length_drop]
    congr 1
    omega
theorem join_snoc (A : List (List UInt8)) (x : List UInt8) : Lib.join (A ++ [x]) [10] = if A = [] then x else Lib.join A [10] ++ [10] ++ x := by
  cases A with
  | nil => rw [if_pos rfl]; exact Lib.join_one x [10]
  | cons a r =>
    rw [if_neg (by simp), List.cons_append, Lib.join_cons, Lib.join_cons]
    simp [Lib.joinTail]
theorem take_drop_snoc {M : List (List UInt8)} {F k : Nat} (h1 : F ≤ k) (hk : k < M.length) : (M.take (k + 1)).drop F = (M.take k).drop F ++ [M.getD k []] := by
  rw [List.take_add_one, List.drop_append, List.getElem?_eq_getElem hk]
  rw [show F - (M.take k).length = 0 by simp; omega]
  simp [List.getD_eq_getElem?_getD, hk]

end Go.Proofs.YtbmfmnkfdfdjbaaGreatDoor.D
