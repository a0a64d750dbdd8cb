/-
  What is ignored, and a document's tokens, by what they depend on. No condition.
-/
import Derived.Test.YtbmfmnkfdfdjbaaGreatDoorM0
namespace Go.Proofs.YtbmfmnkfdfdjbaaGreatDoor.D
open Go.RowKit Go.Shelf
set_option linter.unusedVariables false
set_option linter.unusedSimpArgs false

theorem getD_drop (l : List UInt8) (n k : Nat) : (l.drop n).getD k 0 = l.getD (n + k) 0 := by simp [List.getD_eq_getElem?_getD]
theorem com_lo : ∀ (N : Nat) (l : List UInt8), l.length ≤ N → ∀ (l' : List UInt8) (m : Nat) (b : Bool), com l = (m, b) → m ≤ l'.length → (∀ k, k < m → l'.getD k 0 = l.getD k 0) →
    (l'.length = m ∨ l'.getD m 0 = 10 ∨ l'.getD m 0 = 13) → com l' = (m, true)
  | N, l, hN, l', m, b, h, hm, ha, he => by
    have hz : m = 0 → com l' = (m, true) := fun h0 => by
      subst h0
      exact com_end (by
        rcases he with e | e
        · exact Or.inl (List.length_eq_zero_iff.1 e)
        · exact Or.inr e)
    by_cases h0 : l = []
    · rw [com_end (Or.inl h0)] at h
      injection h with e1 e2
      exact hz e1.symm
    · by_cases h1 : l.getD 0 0 = 10 ∨ l.getD 0 0 = 13
      · rw [com_end (Or.inr h1)] at h
        injection h with e1 e2
        exact hz e1.symm
      · cases hs : src l with
        | none =>
          rw [com_bad h0 h1 hs] at h
          injection h with e1 e2
          exact hz e1.symm
        | some p =>
          obtain ⟨c, n⟩ := p
          have hle := src_le hs
          rw [com_step h0 h1 hs] at h
          injection h with e1 e2
          have hs' : src l' = some (c, n) := src_loc hs (by omega) (fun k hk => ha k (by omega))
          have h0' : l' ≠ [] := by
            rintro rfl
            simp at hm
            omega
          have h1' : ¬ (l'.getD 0 0 = 10 ∨ l'.getD 0 0 = 13) := by rw [ha 0 (by omega)]; exact h1
          rw [com_step h0' h1' hs']
          cases N with
          | zero => omega
          | succ N =>
            have ih := com_lo N (l.drop n) (by simp; omega) (l'.drop n) (com (l.drop n)).1 (com (l.drop n)).2 rfl (by simp; omega) (fun k hk => by
              rw [getD_drop, getD_drop]; exact ha (n + k) (by omega)) (by
                rw [getD_drop, List.length_drop, show n + (com (l.drop n)).1 = m by omega]
                rcases he with e | e
                · left; omega
                · exact Or.inr e)
            rw [ih]
            simp only
            rw [e1]
theorem com_stop : ∀ (N : Nat) (l : List UInt8), l.length ≤ N → ∀ (m : Nat), com l = (m, true) → m = l.length ∨ l.getD m 0 = 10 ∨ l.getD m 0 = 13
  | N, l, hN, m, h => by
    by_cases h0 : l = []
    · rw [com_end (Or.inl h0)] at h
      injection h with e1 e2
      subst h0
      left; simpa using e1.symm
    · by_cases h1 : l.getD 0 0 = 10 ∨ l.getD 0 0 = 13
      · rw [com_end (Or.inr h1)] at h
        injection h with e1 e2
        subst e1
        exact Or.inr h1
      · cases hs : src l with
        | none =>
          rw [com_bad h0 h1 hs] at h
          injection h with e1 e2
          cases e2
        | some p =>
          obtain ⟨c, n⟩ := p
          have hle := src_le hs
          rw [com_step h0 h1 hs] at h
          injection h with e1 e2
          cases N with
          | zero => omega
          | succ N =>
            have ih := com_stop N (l.drop n) (by simp; omega) (com (l.drop n)).1 (by rw [← e2])
            rw [getD_drop, List.length_drop, show n + (com (l.drop n)).1 = m by omega] at ih
            rcases ih with e | e
            · left; omega
            · exact Or.inr e
theorem ign_ws1 {l : List UInt8} (h : (ign l).1 ≠ 0 ∨ (ign l).2 = false) : l ≠ [] := by
  rintro rfl
  rcases h with h | h
  · exact h rfl
  · cases h
/-- What is ignored depends on its own bytes, and on what follows it where a comment is not ended. -/
theorem ign_lo : ∀ (N : Nat) (l : List UInt8), l.length ≤ N → ∀ (l' : List UInt8) (n : Nat) (b : Bool), ign l = (n, b) → n ≤ l'.length → (∀ k, k < n → l'.getD k 0 = l.getD k 0) →
    (l'.length = n ∨ l'.getD n 0 = 10 ∨ l'.getD n 0 = 13 ∨ (b = true ∧ n < l.length)) → ign l' = (n + (ign (l'.drop n)).1, (ign (l'.drop n)).2)
  | N, l, hN, l', n, b, h, hm, ha, he => by
    have hz : n = 0 → ign l' = (n + (ign (l'.drop n)).1, (ign (l'.drop n)).2) := fun h0 => by
      subst h0
      simp
    by_cases h0 : l = []
    · subst h0
      rw [ign_nil] at h
      injection h with e1 e2
      exact hz e1.symm
    have hl := List.length_pos_iff.2 h0
    cases N with
    | zero => omega
    | succ N =>
      have ne' : 1 ≤ n → l' ≠ [] := fun h1 => by
        rintro rfl
        simp at hm
        omega
      by_cases h1 : wsB.contains (l.getD 0 0) = true
      · rw [ign_ws h0 h1] at h
        injection h with e1 e2
        have ih := ign_lo N (l.drop 1) (by rw [List.length_drop]; omega) (l'.drop 1) (ign (l.drop 1)).1 (ign (l.drop 1)).2 rfl (by rw [List.length_drop]; omega) (fun k hk => by
          rw [getD_drop, getD_drop]; exact ha (1 + k) (by omega)) (by
            rw [getD_drop, List.length_drop, List.length_drop, show 1 + (ign (l.drop 1)).1 = n by omega, e2]
            rcases he with e | e | e | e
            · left; omega
            · exact Or.inr (Or.inl e)
            · exact Or.inr (Or.inr (Or.inl e))
            · exact Or.inr (Or.inr (Or.inr ⟨e.1, by omega⟩)))
        rw [ign_ws (ne' (by omega)) (by rw [ha 0 (by omega)]; exact h1), ih]
        simp only [List.drop_drop]
        rw [show 1 + (ign (l.drop 1)).1 = n by omega]
        congr 1
        omega
      · have h1 : wsB.contains (l.getD 0 0) = false := by simpa using h1
        by_cases h2 : markB.isPrefixOf l = true
        · rw [ign_mark h0 h1 h2] at h
          injection h with e1 e2
          have h2' : markB.isPrefixOf l' = true := by
            have a0 := ha 0 (by omega)
            have a1 := ha 1 (by omega)
            have a2 := ha 2 (by omega)
            have b2 := (has3 (s := l) (i := 0) (a := 239) (b := 187) (c := 191)).1 h2
            have := (has3 (s := l') (i := 0) (a := 239) (b := 187) (c := 191)).2 ⟨by omega, by rw [← b2.2.1]; exact a0, by rw [← b2.2.2.1]; exact a1, by rw [← b2.2.2.2]; exact a2⟩
            exact this
          have hm3 : 3 ≤ l.length := by
            have := ((has3 (s := l) (i := 0) (a := 239) (b := 187) (c := 191)).1 h2).1
            omega
          have ih := ign_lo N (l.drop 3) (by rw [List.length_drop]; omega) (l'.drop 3) (ign (l.drop 3)).1 (ign (l.drop 3)).2 rfl (by rw [List.length_drop]; omega) (fun k hk => by
            rw [getD_drop, getD_drop]; exact ha (3 + k) (by omega)) (by
              rw [getD_drop, List.length_drop, List.length_drop, show 3 + (ign (l.drop 3)).1 = n by omega, e2]
              rcases he with e | e | e | e
              · left; omega
              · exact Or.inr (Or.inl e)
              · exact Or.inr (Or.inr (Or.inl e))
              · exact Or.inr (Or.inr (Or.inr ⟨e.1, by omega⟩)))
          rw [ign_mark (ne' (by omega)) (by rw [ha 0 (by omega)]; exact h1) h2', ih]
          simp only [List.drop_drop]
          rw [show 3 + (ign (l.drop 3)).1 = n by omega]
          congr 1
          omega
        · have h2 : markB.isPrefixOf l = false := Bool.eq_false_iff.2 h2
          by_cases h3 : l.getD 0 0 = 35
          · rw [ign_com h0 h1 h2 h3] at h
            have hp := com_pos h0 h3
            have hcl := com_le l
            -- the sign of a comment comes in l' too
            have hl' : 1 ≤ n → l' ≠ [] ∧ wsB.contains (l'.getD 0 0) = false ∧ markB.isPrefixOf l' = false ∧ l'.getD 0 0 = 35 := fun hn => by
              have a0 := ha 0 (by omega)
              refine ⟨ne' hn, by rw [a0]; exact h1, ?_, by rw [a0]; exact h3⟩
              cases e : markB.isPrefixOf l' with
              | false => rfl
              | true =>
                have q := ((has3 (s := l') (i := 0) (a := 239) (b := 187) (c := 191)).1 e).2.1
                have q : l'.getD 0 0 = 239 := q
                rw [a0, h3] at q
                cases q
            cases hb : (com l).2 with
            | false =>
              rw [hb, if_neg (by decide)] at h
              injection h with e1 e2
              subst e2
              have hc' := com_lo l.length l (Nat.le_refl _) l' n (com l).2 (by rw [← e1]) hm ha (by
                rcases he with e | e | e | e
                · exact Or.inl e
                · exact Or.inr (Or.inl e)
                · exact Or.inr (Or.inr e)
                · cases e.1)
              obtain ⟨q0, q1, q2, q3⟩ := hl' (by omega)
              rw [ign_com q0 q1 q2 q3, hc', if_pos rfl]
              simp only
              congr 1
              omega
            | true =>
              rw [hb, if_pos rfl] at h
              injection h with e1 e2
              obtain ⟨m, hm0⟩ : ∃ m, m = (com l).1 := ⟨_, rfl⟩
              rw [← hm0] at e1 e2 hp hcl
              have hcm : com l = (m, true) := by rw [hm0, ← hb]
              have hst := com_stop l.length l (Nat.le_refl _) m hcm
              have hc' := com_lo l.length l (Nat.le_refl _) l' m true hcm (by omega) (fun k hk => ha k (by omega)) (by
                by_cases hml : m < l.length
                · have hst := hst.resolve_left (by omega)
                  have hdn : l.drop m ≠ [] := drop_ne hml
                  have hw : wsB.contains ((l.drop m).getD 0 0) = true := by
                    rw [getD_drop, Nat.add_zero]
                    rcases hst with e | e <;> rw [e] <;> decide
                  have := congrArg Prod.fst (ign_ws hdn hw)
                  simp only at this
                  right
                  rw [ha m (by omega)]
                  exact hst
                · have hml : m = l.length := by omega
                  have hd : l.drop m = [] := List.drop_eq_nil_of_le (by omega)
                  rw [hd, ign_nil] at e1 e2
                  simp only at e1 e2
                  have : m = n := by omega
                  rw [this]
                  rcases he with e | e | e | e
                  · exact Or.inl e
                  · exact Or.inr (Or.inl e)
                  · exact Or.inr (Or.inr e)
                  · omega)
              obtain ⟨q0, q1, q2, q3⟩ := hl' (by omega)
              have ih := ign_lo N (l.drop m) (by rw [List.length_drop]; omega) (l'.drop m) (ign (l.drop m)).1 (ign (l.drop m)).2 rfl (by rw [List.length_drop]; omega) (fun k hk => by
                rw [getD_drop, getD_drop]; exact ha (m + k) (by omega)) (by
                  rw [getD_drop, List.length_drop, List.length_drop, show m + (ign (l.drop m)).1 = n by omega, e2]
                  rcases he with e | e | e | e
                  · left; omega
                  · exact Or.inr (Or.inl e)
                  · exact Or.inr (Or.inr (Or.inl e))
                  · exact Or.inr (Or.inr (Or.inr ⟨e.1, by omega⟩)))
              rw [ign_com q0 q1 q2 q3, hc', if_pos rfl, ih]
              simp only [List.drop_drop]
              rw [show m + (ign (l.drop m)).1 = n by omega]
              congr 1
              omega
          · rw [ign_not h0 h1 h2 h3] at h
            injection h with e1 e2
            exact hz e1.symm
theorem ign_take (l : List UInt8) : ign (l.take (ign l).1) = ((ign l).1, true) := by
  have hle := ign_le l
  have h := ign_lo l.length l (Nat.le_refl _) (l.take (ign l).1) (ign l).1 (ign l).2 rfl (by simp; omega) (fun k hk => by
    simp [List.getD_eq_getElem?_getD, List.getElem?_take, hk]) (Or.inl (by simp; omega))
  have hd : (l.take (ign l).1).drop (ign l).1 = [] := List.drop_eq_nil_of_le (by simp; omega)
  rw [hd, ign_nil] at h
  simpa using h

/-! ### a token's beginning -/
def startB : List UInt8 := [46, 45, 34] ++ punB ++ letB ++ digB
theorem tok_start {s : List UInt8} {a : Nat} {r : Int × List UInt8 × Nat} (h : tok1 s a = .ok r) : startB.contains (pk s a) = true := by
  have hm : ∀ p : List UInt8, (p.all fun c => startB.contains c) = true → p.contains (pk s a) = true → startB.contains (pk s a) = true := fun p hp hc =>
    List.all_eq_true.1 hp _ (by simpa using hc)
  unfold tok1 at h
  split at h
  · rename_i h1
    rw [(has_head h1).2]
    decide
  · split at h
    · rename_i h2
      exact hm punB (by decide) h2
    · split at h
      · rename_i h3
        exact hm letB (by decide) h3
      · split at h
        · rename_i h4
          simp only [Bool.or_eq_true, beq_iff_eq] at h4
          rcases h4 with e | e
          · rw [e]; decide
          · exact hm digB (by decide) e
        · split at h
          · rename_i h5
            rw [(has_head h5).2]
            decide
          · split at h
            · rename_i h6
              rw [eq_of_beq h6]
              decide
            · cases h
theorem start_gap {c : UInt8} (h : startB.contains c = true) : gapB.contains c = false := by
  have := List.all_eq_true.1 (show (startB.all fun c => !gapB.contains c) = true by decide) c (by simpa using h)
  simpa using this
theorem ign_start {l : List UInt8} (h0 : l ≠ []) (h : gapB.contains (l.getD 0 0) = false) : ign l = (0, true) := by
  obtain ⟨c, hc⟩ : ∃ c, c = l.getD 0 0 := ⟨_, rfl⟩
  rw [← hc] at h
  have hne : ∀ d : UInt8, gapB.contains d = true → c ≠ d := fun d hd e => by rw [e, hd] at h; cases h
  refine ign_not h0 ?_ ?_ ?_
  · rw [← hc]
    have n1 := hne 32 (by decide)
    have n2 := hne 9 (by decide)
    have n3 := hne 10 (by decide)
    have n4 := hne 13 (by decide)
    have n5 := hne 44 (by decide)
    simp [wsB, n1, n2, n3, n4, n5]
  · cases e : markB.isPrefixOf l with
    | false => rfl
    | true =>
      have q := ((has3 (s := l) (i := 0) (a := 239) (b := 187) (c := 191)).1 e).2.1
      exact absurd (hc.trans q) (hne 239 (by decide))
  · rw [← hc]
    exact hne 35 (by decide)
theorem ign_tok {s : List UInt8} {a : Nat} {r : Int × List UInt8 × Nat} (ha : a < s.length) (h : tok1 s a = .ok r) : ign (s.drop a) = (0, true) :=
  ign_start (drop_ne ha) (by rw [pk_head]; exact start_gap (tok_start h))

/-! ### a document's tokens -/
/-- These are all the tokens of s from place i on. -/
inductive Lx (s : List UInt8) : Nat → List Tok → Prop
  | nil {i : Nat} (hi : i ≤ s.length) (hg : ign (s.drop i) = (s.length - i, true)) : Lx s i []
  | cons {i a e : Nat} {k : Int} {l : List UInt8} {L : List Tok} (hi : i ≤ a) (ha : a < s.length) (hg : ign (s.drop i) = (a - i, true)) (ht : tok1 s a = .ok (k, l, e)) (hL : Lx s e L) : Lx s i (⟨k, l, a, e⟩ :: L)
theorem lx_of (s : List UInt8) : ∀ (d i n : Nat) (L : List Tok), s.length - i ≤ d → i ≤ s.length → n ≤ 2048 → lexAt s i n = .ok L → Lx s i L ∧ n + L.length ≤ 2048
  | d, i, n, L, hd, hi, hn, h => by
    have hle := ign_le (s.drop i)
    rw [List.length_drop] at hle
    rw [lexAt_un s i n hi] at h
    split at h
    · cases h
    · rename_i h1
      have h1 : (ign (s.drop i)).2 = true := by simpa using h1
      split at h
      · rename_i h2
        injection h with h
        subst h
        exact ⟨.nil hi (Prod.ext (by show (ign (s.drop i)).1 = s.length - i; omega) h1), by simpa using hn⟩
      · split at h
        · cases h
        · rename_i h2 h3
          cases ht : tok1 s (i + (ign (s.drop i)).1) with
          | error c => rw [ht] at h; cases h
          | ok p =>
            obtain ⟨k, l, e⟩ := p
            rw [ht] at h
            have hk := tok1_le (by omega) ht
            simp only at h
            cases hl : lexAt s e (n + 1) with
            | error x => rw [hl] at h; cases h
            | ok L2 =>
              rw [hl] at h
              injection h with h
              subst h
              cases d with
              | zero => omega
              | succ d =>
                obtain ⟨q1, q2⟩ := lx_of s d e (n + 1) L2 (by omega) (by omega) (by omega) hl
                exact ⟨.cons (by omega) (by omega) (Prod.ext (by show (ign (s.drop i)).1 = i + (ign (s.drop i)).1 - i; omega) h1) ht q1, by simp only [List.length_cons]; omega⟩
theorem of_lx {s : List UInt8} {i : Nat} {L : List Tok} (h : Lx s i L) : ∀ n, n + L.length ≤ 2048 → lexAt s i n = .ok L := by
  induction h with
  | nil hi hg =>
    intro n hn
    rw [lexAt_un _ _ _ hi, hg, if_neg (by simp), if_pos (by simp only; omega)]
  | @cons i a e k l L hi ha hg ht hL ih =>
    intro n hn
    simp only [List.length_cons] at hn
    rw [lexAt_un _ _ _ (by omega), hg, if_neg (by simp), if_neg (by simp only; omega), if_neg (by omega)]
    simp only
    rw [show i + (a - i) = a by omega, ht]
    simp only
    rw [ih (n + 1) (by omega)]
theorem lexP_iff {s : List UInt8} {L : List Tok} : lexP s = .ok L ↔ s.length ≤ 16384 ∧ Lx s 0 L ∧ L.length ≤ 2048 := by
  unfold lexP
  constructor
  · intro h
    split at h
    · cases h
    · obtain ⟨q1, q2⟩ := lx_of s _ 0 0 L (Nat.le_refl _) (by omega) (by omega) h
      exact ⟨by omega, q1, by omega⟩
  · rintro ⟨h1, h2, h3⟩
    rw [if_neg (by omega)]
    exact of_lx h2 0 (by omega)
/-- Alike: but for their places. -/
def Al (L M : List Tok) : Prop := L.map (fun t => (t.k, t.l)) = M.map (fun t => (t.k, t.l))
theorem Al.len {L M : List Tok} (h : Al L M) : L.length = M.length := by have := congrArg List.length h; simpa using this
theorem Al.cons {L M : List Tok} (h : Al L M) (k : Int) (l : List UInt8) (a e a' e' : Nat) : Al (⟨k, l, a, e⟩ :: L) (⟨k, l, a', e'⟩ :: M) := by
  unfold Al at h ⊢
  rw [List.map_cons, List.map_cons, h]
theorem Lx.le {s : List UInt8} {i : Nat} {L : List Tok} (h : Lx s i L) : i ≤ s.length := by
  cases h with
  | nil hi hg => exact hi
  | cons hi ha hg ht hL => omega
theorem Lx.skip {s : List UInt8} {i n : Nat} {L : List Tok} (h : Lx s (i + n) L) (hg : ign (s.drop i) = (n + (ign (s.drop (i + n))).1, (ign (s.drop (i + n))).2)) : Lx s i L := by
  cases h with
  | nil hi h2 =>
    rw [h2] at hg
    exact .nil (by omega) (by rw [hg]; simp only; congr 1; omega)
  | cons hi ha h2 ht hL =>
    rw [h2] at hg
    exact .cons (by omega) ha (by rw [hg]; simp only; congr 1; omega) ht hL
theorem ag_drop {s t : List UInt8} {e j : Nat} (h : t.drop j = s.drop e) (he : e ≤ s.length) (hj : j ≤ t.length) : t.length - j = s.length - e ∧ ∀ k, pk t (j + k) = pk s (e + k) := by
  have h1 := congrArg List.length h
  simp only [List.length_drop] at h1
  refine ⟨h1, fun k => ?_⟩
  rw [← drop_pk, ← drop_pk, h]
/-- The tokens of what is the same text at another place. -/
theorem Lx.move {s t : List UInt8} {i : Nat} {L : List Tok} (h : Lx s i L) : ∀ j, j ≤ t.length → t.drop j = s.drop i → ∃ L', Lx t j L' ∧ Al L' L := by
  induction h with
  | @nil i hi hg =>
    intro j hj hd
    obtain ⟨q1, q2⟩ := ag_drop hd hi hj
    exact ⟨[], .nil hj (by rw [hd, hg, q1]), rfl⟩
  | @cons i a e k l L hi ha hg ht hL ih =>
    intro j hj hd
    obtain ⟨q1, q2⟩ := ag_drop hd (by omega) hj
    have hk := tok1_le ha ht
    have hd2 : ∀ n, t.drop (j + n) = s.drop (i + n) := fun n => by rw [← List.drop_drop, ← List.drop_drop, hd]
    have hd3 := hd2 (e - i)
    rw [show i + (e - i) = e by omega] at hd3
    obtain ⟨L', h1, h2⟩ := ih (j + (e - i)) (by omega) hd3
    have htok := tok_lo (t := t) (j := j + (a - i)) ha ht ⟨⟨by omega, by omega, fun n hn => by
      have := q2 (a - i + n)
      rwa [show j + (a - i + n) = j + (a - i) + n by omega, show i + (a - i + n) = a + n by omega] at this⟩, fun hl => Or.inr ⟨by omega, by
      have := q2 (e - i)
      rwa [show j + (e - i) = j + (a - i) + (e - a) by omega, show i + (e - i) = a + (e - a) by omega] at this⟩⟩
    rw [show j + (a - i) + (e - a) = j + (e - i) by omega] at htok
    exact ⟨_, .cons (by omega) (by omega) (by rw [hd, hg]; congr 1; omega) htok h1, h2.cons _ _ _ _ _ _⟩

end Go.Proofs.YtbmfmnkfdfdjbaaGreatDoor.D
