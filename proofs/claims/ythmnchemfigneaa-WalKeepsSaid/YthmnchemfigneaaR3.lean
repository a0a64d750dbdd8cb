/-
  The document's disk: left, After, Image, die. No condition beyond the disk's own.
-/
import Derived.Test.YthmnchemfigneaaR2
namespace Go.Proofs.Ythmnchemfigneaa.D
open Go.RowKit Go.Maps Go.Shelf
set_option linter.unusedVariables false
set_option linter.unusedSimpArgs false

theorem uns_nil {S : St} (hs : S.Ok) (i : Nat) : (uns S i).isEmpty = (S.un i).isNone := by
  unfold uns
  cases h : S.un i with
  | none => rfl
  | some l =>
    have := (hs.un i l h).2
    cases l with
    | nil => simp at this
    | cons a l => rfl
theorem ul_unl {S : St} (hs : S.Ok) : ul (uns S) S.n = S.unl := by
  unfold ul St.unl
  congr 1
  funext i
  rw [uns_nil hs]
  cases S.un i <;> rfl
theorem piece_len {S : St} (hs : S.Ok) {i : Nat} (hi : i < S.n) : (piece S.safe i).length = 64 := by
  have := hs.safe
  simp only [piece, List.length_take, List.length_drop]
  omega
theorem sec_uns {S : St} (hs : S.Ok) (i : Nat) : (if uns S i = [] then piece S.safe i else uns S i) = sec S i := by
  have h1 := uns_nil hs i
  unfold sec
  cases h : S.un i with
  | none =>
    rw [h] at h1
    rw [if_pos (by simpa using h1)]
    rfl
  | some l =>
    rw [h] at h1
    rw [if_neg (by intro e; rw [e] at h1; simp at h1)]
    simp [uns, h]

theorem rows_cells {w : World} {b n : Nat} {f : Nat → List UInt8} (h : RowP w b n f) : ∀ (j : Nat) (v : Value), (rowOf f n)[j]? = some v → w.cell? ((⟨b, 0, none⟩ : Addr).add j) = some v := by
  intro j v hj
  have hj' : j < n := by have := (List.getElem?_eq_some_iff.1 hj).1; rwa [rowOf_length] at this
  have e1 : (⟨b, 0, none⟩ : Addr).add j = ⟨b, j, none⟩ := by unfold Addr.add; split <;> simp_all
  rw [e1, h.cell hj', ← hj, rowOf_get hj']
theorem rows_one {f : Nat → List UInt8} {n : Nat} : ∀ u ∈ rowOf f n, u.oneCell' = true := by
  intro u hu
  simp only [rowOf, List.mem_map] at hu
  obtain ⟨i, _, rfl⟩ := hu
  rfl

end Go.Proofs.Ythmnchemfigneaa.D
