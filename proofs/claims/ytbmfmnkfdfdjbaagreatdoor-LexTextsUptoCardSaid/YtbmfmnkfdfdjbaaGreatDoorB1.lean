/-
  A text's lines, as the document cuts them. No condition.
-/
import Derived.Test.YtbmfmnkfdfdjbaaGreatDoorLE
import Derived.Lib.Replace
namespace Go.Proofs.YtbmfmnkfdfdjbaaGreatDoor.D
open Go.RowKit Go.Shelf
set_option linter.unusedVariables false
set_option linter.unusedSimpArgs false

section
variable {old new : List UInt8}
theorem idx_hit (h : old ≠ []) (t : List UInt8) : Lib.index (old ++ t) old = 0 := by
  cases old with
  | nil => exact absurd rfl h
  | cons a o =>
    show Lib.index (a :: (o ++ t)) (a :: o) = 0
    unfold Lib.index
    rw [if_pos (by simp [List.isPrefixOf_iff_prefix])]
theorem idx_miss {b : UInt8} {l : List UInt8} (h : old.isPrefixOf (b :: l) = false) : Lib.index (b :: l) old = if Lib.index l old == -1 then -1 else Lib.index l old + 1 := by
  conv => lhs; unfold Lib.index
  rw [if_neg (by rw [h]; decide)]
theorem cnt_hit (h : old ≠ []) (t : List UInt8) : Lib.count (old ++ t) old = 1 + Lib.count t old := by
  rw [Lib.count_hit (i := 0) h (idx_hit h t), Nat.zero_add, List.drop_left]
theorem cnt_miss (ho : old ≠ []) {b : UInt8} {l : List UInt8} (h : old.isPrefixOf (b :: l) = false) : Lib.count (b :: l) old = Lib.count l old := by
  have hi := idx_miss h
  have hg := Lib.index_ge l old
  by_cases hm : Lib.index l old = -1
  · rw [hm] at hi
    rw [Lib.count_miss (by rw [hi]; rfl), Lib.count_miss hm]
  · obtain ⟨i, hn⟩ : ∃ i : Nat, Lib.index l old = i := ⟨(Lib.index l old).toNat, by omega⟩
    rw [hn, if_neg (by simp <;> omega)] at hi
    rw [Lib.count_hit (i := i + 1) ho (by rw [hi]; rfl), Lib.count_hit ho hn, show i + 1 + old.length = (i + old.length) + 1 by omega]
    rfl
theorem rk_miss {b : UInt8} {l : List UInt8} (h : old.isPrefixOf (b :: l) = false) : ∀ k, Lib.replaceK old new k (b :: l) = b :: Lib.replaceK old new k l
  | 0 => rfl
  | k + 1 => by
    have hi := idx_miss h
    have hg := Lib.index_ge l old
    by_cases hm : Lib.index l old = -1
    · rw [hm] at hi
      simp only [Lib.replaceK]
      rw [hi, hm]
      rfl
    · obtain ⟨i, hn⟩ : ∃ i : Nat, Lib.index l old = i := ⟨(Lib.index l old).toNat, by omega⟩
      rw [hn, if_neg (by simp <;> omega)] at hi
      rw [Lib.replaceK_hit old new k (b :: l) (i + 1) (by rw [hi]; rfl), Lib.replaceK_hit old new k l i hn, show i + 1 + old.length = (i + old.length) + 1 by omega]
      rfl
theorem ra_eq (hne : old ≠ new) (s : List UInt8) : Lib.replaceAll s old new = Lib.replaceK old new (Lib.count s old) s := by
  unfold Lib.replaceAll Lib.replace Lib.replaceNum
  rw [if_neg (by simpa using hne), if_pos (by omega)]
theorem ra_nil (hne : old ≠ new) (ho : old ≠ []) : Lib.replaceAll [] old new = [] := by
  rw [ra_eq hne]
  have hi : Lib.index [] old = -1 := by
    unfold Lib.index
    rw [if_neg (by simpa using ho)]
  rw [Lib.count_miss hi]
  rfl
theorem ra_hit (hne : old ≠ new) (ho : old ≠ []) (t : List UInt8) : Lib.replaceAll (old ++ t) old new = new ++ Lib.replaceAll t old new := by
  rw [ra_eq hne, ra_eq hne, cnt_hit ho, Nat.add_comm, Lib.replaceK_hit old new _ _ 0 (idx_hit ho t), Nat.zero_add, List.drop_left]
  rfl
theorem ra_miss (hne : old ≠ new) (ho : old ≠ []) {b : UInt8} {l : List UInt8} (h : old.isPrefixOf (b :: l) = false) : Lib.replaceAll (b :: l) old new = b :: Lib.replaceAll l old new := by
  rw [ra_eq hne, ra_eq hne, cnt_miss ho h, rk_miss h]
end
theorem one_nil : oneEnd [] = [] := by
  unfold oneEnd
  rw [ra_nil (by decide) (by decide), ra_nil (by decide) (by decide)]
theorem one_rn (t : List UInt8) : oneEnd (13 :: 10 :: t) = 10 :: oneEnd t := by
  unfold oneEnd
  have h := ra_hit (old := [13, 10]) (new := [10]) (by decide) (by decide) t
  rw [show (13 :: 10 :: t : List UInt8) = [13, 10] ++ t from rfl, h]
  exact ra_miss (by decide) (by decide) (by simp [List.isPrefixOf])
theorem one_r {t : List UInt8} (h : t.head? ≠ some 10) : oneEnd (13 :: t) = 10 :: oneEnd t := by
  unfold oneEnd
  rw [ra_miss (old := [13, 10]) (new := [10]) (by decide) (by decide) (by
    cases t with
    | nil => rfl
    | cons a t =>
      simp at h
      simp [List.isPrefixOf]
      exact fun e => h e.symm)]
  exact ra_hit (old := [13]) (new := [10]) (by decide) (by decide) _
theorem one_c {b : UInt8} {t : List UInt8} (h : b ≠ 13) : oneEnd (b :: t) = b :: oneEnd t := by
  unfold oneEnd
  rw [ra_miss (old := [13, 10]) (new := [10]) (by decide) (by decide) (by simp [List.isPrefixOf]; exact fun e => absurd e.symm h), ra_miss (old := [13]) (new := [10]) (by decide) (by decide) (by simp [List.isPrefixOf]; exact fun e => h e.symm)]
def spl (u : List UInt8) : List (List UInt8) := Lib.splitK [10] 0 (Lib.count u [10]) u
theorem spl_nil : spl [] = [[]] := by
  unfold spl
  have hi : Lib.index [] [10] = -1 := rfl
  rw [Lib.count_miss hi]
  rfl
theorem spl_hit (t : List UInt8) : spl (10 :: t) = [] :: spl t := by
  unfold spl
  have hc := cnt_hit (old := [10]) (by decide) t
  have hi := idx_hit (old := [10]) (by decide) t
  rw [show (10 :: t : List UInt8) = [10] ++ t from rfl, hc, Nat.add_comm]
  simp only [Lib.splitK]
  rw [hi, if_neg (by decide)]
  rfl
/-- A byte ahead of the first line. -/
def addHead (b : List UInt8) : List (List UInt8) → List (List UInt8)
  | [] => [b]
  | x :: xs => (b ++ x) :: xs
theorem spl_miss {b : UInt8} {t : List UInt8} (h : b ≠ 10) : spl (b :: t) = addHead [b] (spl t) := by
  have hp : ([10] : List UInt8).isPrefixOf (b :: t) = false := by simp [List.isPrefixOf]; exact fun e => h e.symm
  unfold spl
  rw [cnt_miss (by decide) hp]
  have hi := idx_miss hp
  have hg := Lib.index_ge t [10]
  by_cases hm : Lib.index t [10] = -1
  · rw [Lib.count_miss hm]
    rfl
  · obtain ⟨i, hn⟩ : ∃ i : Nat, Lib.index t [10] = i := ⟨(Lib.index t [10]).toNat, by omega⟩
    rw [hn, if_neg (by simp <;> omega)] at hi
    have hc := Lib.count_hit (by decide) hn
    rw [hc, Nat.add_comm]
    simp only [Lib.splitK]
    rw [hi, hn, if_neg (by simp <;> omega), if_neg (by simp <;> omega)]
    simp only [addHead, Nat.add_zero]
    rw [show ((i : Int) + 1).toNat = i + 1 by omega, show ((i : Int)).toNat = i by omega, List.take_succ_cons, show i + 1 + ([10] : List UInt8).length = (i + ([10] : List UInt8).length) + 1 by simp, List.drop_succ_cons]
    rfl
/-- A text's lines, cut as the document cuts them. -/
def docL : List UInt8 → List (List UInt8)
  | [] => [[]]
  | 13 :: 10 :: t => [] :: docL t
  | b :: t => if b = 10 ∨ b = 13 then [] :: docL t else addHead [b] (docL t)
theorem docL_rn (t : List UInt8) : docL (13 :: 10 :: t) = [] :: docL t := by rw [docL]
theorem docL_c {b : UInt8} {t : List UInt8} (h : ¬ (b = 13 ∧ t.head? = some 10)) : docL (b :: t) = if b = 10 ∨ b = 13 then [] :: docL t else addHead [b] (docL t) := by
  rw [docL]
  rintro t' rfl rfl
  exact h ⟨rfl, rfl⟩
theorem spl_one : ∀ (N : Nat) (s : List UInt8), s.length ≤ N → spl (oneEnd s) = docL s
  | N, [], h => by rw [one_nil, spl_nil]; rfl
  | 0, b :: t, h => by simp at h
  | N + 1, b :: t, h => by
    simp at h
    by_cases hrn : b = 13 ∧ t.head? = some 10
    · obtain ⟨rfl, ht⟩ := hrn
      cases t with
      | nil => cases ht
      | cons a t =>
        simp at ht
        subst ht
        simp at h
        rw [one_rn, spl_hit, spl_one N t (by omega), docL_rn]
    · rw [docL_c hrn]
      by_cases h13 : b = 13
      · subst h13
        rw [one_r (fun e => hrn ⟨rfl, e⟩), spl_hit, spl_one N t h, if_pos (Or.inr rfl)]
      · rw [one_c h13]
        by_cases h10 : b = 10
        · subst h10
          rw [spl_hit, spl_one N t h, if_pos (Or.inl rfl)]
        · rw [spl_miss h10, spl_one N t h, if_neg (fun e => e.elim h10 h13)]
theorem linesL_doc (s : List UInt8) : linesL s = docL s := by
  rw [← spl_one _ s (Nat.le_refl _), linesL_split]
  unfold spl
  congr 1

end Go.Proofs.YtbmfmnkfdfdjbaaGreatDoor.D
