/-
  Which records stand in an area; the next number. Plain lists. No condition.
-/
import Derived.Test.YthmnchemfigneaaGreatW4
namespace Go.Proofs.YthmnchemfigneaaGreat.D
set_option linter.unusedVariables false
set_option linter.unusedSimpArgs false

/-- The stamp of the i-th sector. -/
def stamp (a : List UInt8) (i : Nat) : Nat := val ((piece a i).take 8)
def marked (a : List UInt8) (i : Nat) : Prop := ((piece a i).drop 14).take 2 = [82, 87]
instance (a : List UInt8) (i : Nat) : Decidable (marked a i) := by unfold marked; infer_instance
/-- The greatest of the first i stamps, and of b. -/
def great (a : List UInt8) (b : Nat) : Nat → Nat
  | 0 => b
  | i + 1 => if marked a i then max (great a b i) (stamp a i) else great a b i

def recsGo : Nat → List UInt8 → Nat → List (List UInt8)
  | 0, _, _ => []
  | f + 1, t, n => match ahead t n with
    | none => []
    | some r => r :: recsGo f (t.drop (64 * many r.length)) (n + 1)
/-- The records that stand ahead, from number n on. -/
def recs (t : List UInt8) (n : Nat) : List (List UInt8) := recsGo (t.length + 1) t n

theorem many_pos (n : Nat) : 1 ≤ many n := by unfold many; omega
theorem ahead_some {a : List UInt8} {n : Nat} {r : List UInt8} (h : ahead a n = some r) : 64 ≤ a.length ∧ (a.drop 14).take 2 = [82, 87] ∧ r.length ≤ 16384 ∧ secsOf n r = a.take (64 * many r.length) ∧ 64 * many r.length ≤ a.length := by
  unfold ahead at h
  split at h
  · cases h
  · rename_i h1
    simp only at h
    split at h
    · cases h
    · split at h
      · rename_i h2
        injection h with h
        subst h
        obtain ⟨p1, p2, p3⟩ := h2
        have p4 := congrArg List.length p3
        rw [secsOf_len, List.length_take] at p4
        refine ⟨by omega, ?_, p1, p3, by omega⟩
        exact Decidable.byContradiction (fun e => h1 (Or.inr e))
      · cases h

theorem recsGo_more : ∀ (f f' : Nat) (t : List UInt8) (n : Nat), t.length < f → t.length < f' → recsGo f t n = recsGo f' t n
  | 0, _, _, _, h, _ => by omega
  | _ + 1, 0, _, _, _, h => by omega
  | f + 1, f' + 1, t, n, h1, h2 => by
    rw [recsGo, recsGo]
    cases h : ahead t n with
    | none => rfl
    | some r =>
      obtain ⟨p1, _, _, _, p5⟩ := ahead_some h
      have := many_pos r.length
      simp only
      rw [recsGo_more f f' (t.drop (64 * many r.length)) (n + 1) (by rw [List.length_drop]; omega) (by rw [List.length_drop]; omega)]
theorem recs_eq (t : List UInt8) (n : Nat) : recs t n = match ahead t n with
    | none => []
    | some r => r :: recs (t.drop (64 * many r.length)) (n + 1) := by
  unfold recs
  rw [recsGo]
  cases h : ahead t n with
  | none => rfl
  | some r =>
    obtain ⟨p1, _, _, _, p5⟩ := ahead_some h
    have := many_pos r.length
    simp only
    rw [recsGo_more t.length ((t.drop (64 * many r.length)).length + 1) _ _ (by rw [List.length_drop]; omega) (by omega)]
theorem recs_none {t : List UInt8} {n : Nat} (h : ahead t n = none) : recs t n = [] := by rw [recs_eq, h]
theorem recs_some {t : List UInt8} {n : Nat} {r : List UInt8} (h : ahead t n = some r) : recs t n = r :: recs (t.drop (64 * many r.length)) (n + 1) := by rw [recs_eq, h]

theorem stamp_lt (a : List UInt8) (i : Nat) : stamp a i < 18446744073709551616 := by
  unfold stamp
  have h1 := val_lt ((piece a i).take 8)
  have h2 : ((piece a i).take 8).length ≤ 8 := by rw [List.length_take]; omega
  exact Nat.lt_of_lt_of_le h1 (Nat.pow_le_pow_right (n := 256) (by omega) h2)
theorem great_lt (a : List UInt8) (b : Nat) (hb : b < 18446744073709551616) : ∀ i, great a b i < 18446744073709551616
  | 0 => hb
  | i + 1 => by
    rw [great]
    have h1 := great_lt a b hb i
    have h2 := stamp_lt a i
    split <;> omega
theorem great_ge (a : List UInt8) (b : Nat) : ∀ i, b ≤ great a b i
  | 0 => Nat.le_refl _
  | i + 1 => by
    rw [great]
    have h1 := great_ge a b i
    split <;> omega
theorem stamp_le (a : List UInt8) (b : Nat) : ∀ i j, j < i → marked a j → stamp a j ≤ great a b i
  | 0, j, h, _ => by omega
  | i + 1, j, h, hm => by
    rw [great]
    by_cases e : j = i
    · subst e
      rw [if_pos hm]
      omega
    · have := stamp_le a b i j (by omega) hm
      split <;> omega

/-- Read, in plain words. -/
def walRead (s : St) (f c n : Int) : List (List UInt8) × Int × Int :=
  if chk s f c n ≠ 0 then ([], 0, chk s f c n)
  else if 1152921504606846976 ≤ great (s.read f c).1 (n.toNat - 1) c.toNat then ([], 0, 180)
  else (recs (s.read f c).1 n.toNat, (great (s.read f c).1 (n.toNat - 1) c.toNat : Nat) + 1, 0)

end Go.Proofs.YthmnchemfigneaaGreat.D
