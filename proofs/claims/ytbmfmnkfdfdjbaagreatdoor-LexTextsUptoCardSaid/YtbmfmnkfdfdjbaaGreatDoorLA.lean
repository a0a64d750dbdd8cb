/-
  A strings.Builder of the call's own; what a string says. No condition beyond the sizes that are named.
-/
import Derived.Test.YtbmfmnkfdfdjbaaGreatDoorL9
namespace Go.Proofs.YtbmfmnkfdfdjbaaGreatDoor.D
open Go.RowKit Go.Shelf
set_option linter.unusedVariables false
set_option linter.unusedSimpArgs false

/-- Block b is a builder of these bytes; all of its blocks from B on. -/
def Bd (w : World) (B b : Nat) (l : List UInt8) : Prop := Lib.IsBuilder 38 5 B b (Lib.byteCells l) w
theorem own_keep {A : Nat → Prop} {w w' : World} {B n : Nat} {e : TypeId} {v : Value} {xs : List Value} (h : w.ownsRow B e 1 v n xs) (hf : Fr A w w') (hA : ∀ i, B ≤ i → ¬ A i) : w'.ownsRow B e 1 v n xs := by
  refine ⟨h.1, ?_⟩
  rcases h.2 with h0 | ⟨g, cap, cur, h1, h2, h3, h4⟩
  · exact Or.inl h0
  · exact Or.inr ⟨g, cap, cur, h1, h2, hf.at h3 (hA g h2), h4⟩
theorem Bd.keep {A : Nat → Prop} {w w' : World} {B b : Nat} {l : List UInt8} (h : Bd w B b l) (hf : Fr A w w') (hA : ∀ i, B ≤ i → ¬ A i) : Bd w' B b l := by
  rcases h with ⟨hB, v, h1, h2, h3⟩ | ⟨hB, v, h1, h2, h3⟩
  · exact Or.inl ⟨hB, v, hf.at h1 (hA b hB), own_keep h2 hf hA, h3⟩
  · exact Or.inr ⟨hB, v, hf.at h1 (hA b hB), own_keep h2 hf hA, h3⟩
theorem Bd.one {w w' : World} {B b r : Nat} {l : List UInt8} (h : Bd w B b l) (hf : Fr (· = r) w w') (hr : r < B) : Bd w' B b l := h.keep hf (fun i hi e => by omega)
theorem Bd.stay {w w' : World} {B b : Nat} {l : List UInt8} (h : Bd w B b l) (hf : Fr (fun _ => False) w w') : Bd w' B b l := h.keep hf (fun _ _ f => f)
theorem Bd.new (w : World) : Bd (w.alloc (.cells #[.pointer none, .slice none 0 0] 38)) w.heap.size w.heap.size [] := Lib.fresh_isBuilder _ _ _
theorem fr_below {B : Nat} {w w' : World} (h : Below B w w') : Fr (fun i => B ≤ i) w w' := ⟨h.os, h.tape, h.output, h.size, fun i hi hn => h.block i (by omega)⟩
theorem Fr.below2 {A : Nat → Prop} {w0 w w' : World} {B : Nat} (h : Fr A w0 w) (hb : Below B w w') (hB : w0.heap.size ≤ B) : Fr A w0 w' :=
  h.trans (fr_below hb) (fun i hi e => absurd e (by omega))

theorem wstr_c (w : World) (B b : Nat) (acc l : List UInt8) (h : Bd w B b acc) (hlen : acc.length + l.length ≤ 100000000) (hB : B ≤ w.heap.size) :
    Calls Tryz.prog 16 #[.pointer (some ⟨b, 0, none⟩), .string (bs l)] w fun e w' => e = .returned (.tuple #[.int .i64 l.length, .nilIface]) ∧ Bd w' B b (acc ++ l) ∧ Below B w w' := by
  refine (Any.Builder_WriteString { Tryz.bl with } Tryz.blX B b _ (bs l) w h (by rw [Lib.byteCells_length, size_bs]; omega) hB).mono ?_
  rintro e w' ⟨rfl, h1, h2⟩
  rw [Lib.strCells_eq, ← Lib.byteCells_append] at h1
  have e0 : (bs l).data.toList = l := by simp [bs]
  rw [e0] at h1
  exact ⟨by rw [size_bs], Or.inr h1, h2⟩
theorem wbyte_c (w : World) (B b : Nat) (acc : List UInt8) (c : UInt8) (h : Bd w B b acc) (hlen : acc.length + 1 ≤ 100000000) (hB : B ≤ w.heap.size) :
    Calls Tryz.prog 17 #[.pointer (some ⟨b, 0, none⟩), .int .u8 c.toNat] w fun e w' => e = .returned .nilIface ∧ Bd w' B b (acc ++ [c]) ∧ Below B w w' := by
  refine (Any.Builder_WriteByte Tryz.bl167 Tryz.blX B b _ (c.toNat : Int) w h (by rw [Lib.byteCells_length]; omega) hB).mono ?_
  rintro e w' ⟨rfl, h1, h2⟩
  refine ⟨rfl, Or.inr ?_, h2⟩
  have e : Lib.byteCells (acc ++ [c]) = Lib.byteCells acc ++ [.int .u8 (c.toNat : Int)] := by rw [Lib.byteCells_append]; rfl
  rw [e]
  exact h1
theorem bstr_c (w : World) (B b : Nat) (acc : List UInt8) (h : Bd w B b acc) (hB : B ≤ w.heap.size) :
    Calls Tryz.prog 19 #[.pointer (some ⟨b, 0, none⟩)] w fun e w' => e = .returned (.string (bs acc)) ∧ Below B w w' := by
  cases acc with
  | nil => exact Any.Builder_String_empty { Tryz.bl with } Tryz.blX B b w h hB
  | cons a t => exact Any.Builder_String { Tryz.bl with } Tryz.blX B b (a :: t) w h (by simp)

/-! ### strings -/
/-- What a string says from place j on, and its end; none: it is none. -/
def textGo (s : List UInt8) : Nat → Nat → Option (List UInt8 × Nat)
  | 0, _ => none
  | d + 1, j =>
    match src (s.drop j) with
    | none => none
    | some (c, k) =>
      if c = 10 ∨ c = 13 then none
      else if c = 34 then some ([], j + k)
      else if c = 92 then (esc s (j + k)).bind fun p => (textGo s d p.2).map fun q => (p.1 ++ q.1, q.2)
      else (textGo s d (j + k)).map fun q => ((s.drop j).take k ++ q.1, q.2)
def textP (s : List UInt8) (j : Nat) : Option (List UInt8 × Nat) := textGo s (s.length + 1 - j) j
theorem esc_le {s : List UInt8} {i e : Nat} {l : List UInt8} (h : esc s i = some (l, e)) : i < e ∧ e ≤ s.length ∧ l.length ≤ 3 := by
  unfold esc at h
  split at h
  · cases h
  · rename_i h0
    split at h
    · injection h with h
      injection h with h1 h2
      subst h1 h2
      exact ⟨by omega, by omega, by simp⟩
    · split at h
      · split at h
        · rename_i h6
          injection h with h
          injection h with h1 h2
          subst h1 h2
          unfold hex4 at h6
          simp only [Bool.and_eq_true, decide_eq_true_eq] at h6
          refine ⟨by omega, by omega, ?_⟩
          unfold unitL
          split
          · simp
          · split <;> simp
        · cases h
      · cases h
theorem textGo_eq (s : List UInt8) : ∀ (d e j : Nat), s.length + 1 - j ≤ d → s.length + 1 - j ≤ e → textGo s d j = textGo s e j
  | 0, e, j, h1, h2 => by
    cases e with
    | zero => rfl
    | succ e =>
      have : src (s.drop j) = none := by
        rw [List.drop_eq_nil_of_le (by omega)]
        exact src_none (Or.inl rfl)
      simp [textGo, this]
  | d + 1, 0, j, h1, h2 => by
    have : src (s.drop j) = none := by
      rw [List.drop_eq_nil_of_le (by omega)]
      exact src_none (Or.inl rfl)
    simp [textGo, this]
  | d + 1, e + 1, j, h1, h2 => by
    simp only [textGo]
    cases hs : src (s.drop j) with
    | none => rfl
    | some p =>
      obtain ⟨c, k⟩ := p
      have hk := src_le hs
      simp only [List.length_drop] at hk
      have e1 := textGo_eq s d e (j + k) (by omega) (by omega)
      simp only [e1]
      split
      · rfl
      · split
        · rfl
        · split
          · cases he : esc s (j + k) with
            | none => rfl
            | some q =>
              obtain ⟨l, m⟩ := q
              have := esc_le he
              simp only [Option.bind_some]
              rw [textGo_eq s d e m (by omega) (by omega)]
          · rfl
section
variable {s : List UInt8} {j c k : Nat}
theorem textP_none (h : src (s.drop j) = none) : textP s j = none := by
  unfold textP
  cases s.length + 1 - j with
  | zero => rfl
  | succ d => simp [textGo, h]
theorem textP_un (h : src (s.drop j) = some (c, k)) : textP s j =
    if c = 10 ∨ c = 13 then none else if c = 34 then some ([], j + k)
    else if c = 92 then (esc s (j + k)).bind fun p => (textP s p.2).map fun q => (p.1 ++ q.1, q.2)
    else (textP s (j + k)).map fun q => ((s.drop j).take k ++ q.1, q.2) := by
  have hk := src_le h
  simp only [List.length_drop] at hk
  unfold textP
  obtain ⟨d, hd⟩ : ∃ d, s.length + 1 - j = d + 1 := ⟨s.length - j, by omega⟩
  rw [hd]
  simp only [textGo, h]
  have e1 := textGo_eq s d (s.length + 1 - (j + k)) (j + k) (by omega) (by omega)
  rw [e1]
  split
  · rfl
  · split
    · rfl
    · split
      · cases he : esc s (j + k) with
        | none => rfl
        | some q =>
          obtain ⟨l, m⟩ := q
          have := esc_le he
          simp only [Option.bind_some]
          rw [textGo_eq s d (s.length + 1 - m) m (by omega) (by omega)]
      · rfl
end

end Go.Proofs.YtbmfmnkfdfdjbaaGreatDoor.D
