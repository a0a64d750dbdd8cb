/-
  A token depends on its own bytes, and on the byte that follows it. No condition.
-/
import Derived.Test.YtbmfmnkfdfdjbaaGreatDoorLH
namespace Go.Proofs.YtbmfmnkfdfdjbaaGreatDoor.D
open Go.RowKit Go.Shelf
set_option linter.unusedVariables false
set_option linter.unusedSimpArgs false

set_option maxRecDepth 100000 in
theorem decN_loc (n n' b0 b1 b2 b3 c1 c2 c3 c k : Nat) (h : Lib.decodeN n b0 b1 b2 b3 = (c, k)) (hv : ¬ (c = 65533 ∧ k < 2)) (hk : k ≤ n')
    (h1 : 2 ≤ k → c1 = b1) (h2 : 3 ≤ k → c2 = b2) (h3 : 4 ≤ k → c3 = b3) : Lib.decodeN n' b0 c1 c2 c3 = (c, k) := by
  unfold Lib.decodeN at h ⊢
  repeat' split at h
  all_goals injection h with e1 e2
  all_goals first
    | (refine absurd ⟨?_, ?_⟩ hv <;> omega)
    | (subst e1 e2
       have E1 : 2 ≤ 2 → True := fun _ => trivial
       first
         | (have a3 := h3 (by omega); have a2 := h2 (by omega); have a1 := h1 (by omega); subst a1 a2 a3; repeat' split)
         | (have a2 := h2 (by omega); have a1 := h1 (by omega); subst a1 a2; repeat' split)
         | (have a1 := h1 (by omega); subst a1; repeat' split)
         | (repeat' split)
       all_goals first | rfl | (exfalso; omega))

theorem src_loc {l t : List UInt8} {c k : Nat} (h : src l = some (c, k)) (hk : k ≤ t.length) (ha : ∀ m, m < k → t.getD m 0 = l.getD m 0) : src t = some (c, k) := by
  have hle := src_le h
  have hl : l ≠ [] := by
    rintro rfl
    simp at hle
    omega
  have ht : t ≠ [] := by
    rintro rfl
    simp at hk
    omega
  unfold src at h
  split at h
  · cases h
  · rename_i h2
    injection h with h
    rw [h] at h2
    have hr : rune t = (c, k) := by
      unfold rune at h ⊢
      rw [if_neg hl] at h
      rw [if_neg ht]
      split at h
      · injection h with e1 e2
        omega
      · rename_i hv
        rw [h] at hv
        have e : dec t = (c, k) := by
          unfold dec at h ⊢
          rw [ha 0 (by omega)]
          exact decN_loc _ _ _ _ _ _ _ _ _ _ _ h hv hk (fun e => by rw [ha 1 (by omega)]) (fun e => by rw [ha 2 (by omega)]) (fun e => by omega)
        rw [e, if_neg hv]
    unfold src
    rw [hr, if_neg h2]

/-- The same m bytes, from place i of s and place j of t on. -/
def Ag (s : List UInt8) (i : Nat) (t : List UInt8) (j m : Nat) : Prop := i + m ≤ s.length ∧ j + m ≤ t.length ∧ ∀ k, k < m → pk t (j + k) = pk s (i + k)
section
variable {s t : List UInt8} {i j m : Nat}
theorem Ag.mono (h : Ag s i t j m) {n : Nat} (hn : n ≤ m) : Ag s i t j n := ⟨by have := h.1; omega, by have := h.2.1; omega, fun k hk => h.2.2 k (by omega)⟩
theorem Ag.shift (h : Ag s i t j m) (k : Nat) (hk : k ≤ m) : Ag s (i + k) t (j + k) (m - k) := ⟨by have := h.1; omega, by have := h.2.1; omega, fun n hn => by
  rw [Nat.add_assoc, Nat.add_assoc]
  exact h.2.2 (k + n) (by omega)⟩
theorem Ag.pk0 (h : Ag s i t j m) (hm : 1 ≤ m) : pk t j = pk s i := h.2.2 0 (by omega)
theorem drop_pk (s : List UInt8) (i m : Nat) : (s.drop i).getD m 0 = pk s (i + m) := by simp [pk, List.getD_eq_getElem?_getD]
theorem Ag.take (h : Ag s i t j m) : (t.drop j).take m = (s.drop i).take m := by
  obtain ⟨h1, h2, h3⟩ := h
  apply List.ext_getElem
  · simp; omega
  · intro k k1 k2
    simp at k1 k2
    have := h3 k (by omega)
    simpa [pk, List.getD_eq_getElem?_getD, show j + k < t.length by omega, show i + k < s.length by omega] using this
theorem Ag.src (h : Ag s i t j m) {c k : Nat} (hs : src (s.drop i) = some (c, k)) (hk : k ≤ m) : D.src (t.drop j) = some (c, k) :=
  src_loc hs (by have := h.2.1; simp; omega) (fun n hn => by rw [drop_pk, drop_pk]; exact h.2.2 n (by omega))
theorem Ag.has (h : Ag s i t j m) (p : List UInt8) (hp : p.length ≤ m) : hasP t j p = hasP s i p := by
  have e := (h.mono hp).take
  unfold hasP
  apply Bool.eq_iff_iff.2
  rw [List.isPrefixOf_iff_prefix, List.isPrefixOf_iff_prefix, List.prefix_iff_eq_take, List.prefix_iff_eq_take, e]
theorem has_head {a : UInt8} {p : List UInt8} (h : hasP s i (a :: p) = true) : i < s.length ∧ pk s i = a := by
  have hr := has_room h (by simp)
  have hi : i < s.length := by simp at hr; omega
  refine ⟨hi, ?_⟩
  unfold hasP at h
  rw [show s.drop i = pk s i :: s.drop (i + 1) by rw [List.drop_eq_getElem_cons hi]; simp [pk, List.getD_eq_getElem?_getD, hi]] at h
  simp [List.isPrefixOf] at h
  exact h.1.symm
theorem has3 {a b c : UInt8} : hasP s i [a, b, c] = true ↔ i + 3 ≤ s.length ∧ pk s i = a ∧ pk s (i + 1) = b ∧ pk s (i + 2) = c := by
  have hc : ∀ k, k < s.length → s.drop k = pk s k :: s.drop (k + 1) := fun k hk => by rw [List.drop_eq_getElem_cons hk]; simp [pk, List.getD_eq_getElem?_getD, hk]
  constructor
  · intro h
    have hr := has_room h (by simp)
    simp at hr
    unfold hasP at h
    rw [hc i (by omega), hc (i + 1) (by omega), hc (i + 1 + 1) (by omega)] at h
    simp [List.isPrefixOf] at h
    exact ⟨hr, h.1.symm, h.2.1.symm, h.2.2.symm⟩
  · rintro ⟨hr, h1, h2, h3⟩
    unfold hasP
    rw [hc i (by omega), hc (i + 1) (by omega), hc (i + 1 + 1) (by omega), h1, h2, show i + 1 + 1 = i + 2 from rfl, h3]
    simp [List.isPrefixOf]

/-! ### what follows -/
/-- What is ignored begins with one of these. -/
def gapB : List UInt8 := [32, 9, 10, 13, 44, 239, 35]
/-- What follows at e' of t is as what follows at e of s, or begins what is ignored, or nothing follows. -/
def Fo (s : List UInt8) (e : Nat) (t : List UInt8) (e' : Nat) : Prop := e' < t.length → gapB.contains (pk t e') = true ∨ (e < s.length ∧ pk t e' = pk s e)
def Lo (s : List UInt8) (i : Nat) (t : List UInt8) (j m : Nat) : Prop := Ag s i t j m ∧ Fo s (i + m) t (j + m)
theorem Lo.fo (h : Lo s i t j m) (k : Nat) (hk : k ≤ m) : Fo s (i + k) t (j + k) := by
  by_cases e : k < m
  · intro _
    exact Or.inr ⟨by have := h.1.1; omega, h.1.2.2 k e⟩
  · have : k = m := by omega
    subst this
    exact h.2
theorem Lo.shift (h : Lo s i t j m) (k : Nat) (hk : k ≤ m) : Lo s (i + k) t (j + k) (m - k) := ⟨h.1.shift k hk, by
  have e1 : i + k + (m - k) = i + m := by omega
  have e2 : j + k + (m - k) = j + m := by omega
  rw [e1, e2]
  exact h.2⟩
theorem cons_pk {s : List UInt8} {k : Nat} (hk : k < s.length) : s.drop k = pk s k :: s.drop (k + 1) := by rw [List.drop_eq_getElem_cons hk]; simp [pk, List.getD_eq_getElem?_getD, hk]
theorem runN_all (p s : List UInt8) : ∀ (d i : Nat), s.length - i = d → (∀ k, k < runN p (s.drop i) → i + k < s.length ∧ p.contains (pk s (i + k)) = true) ∧ (i + runN p (s.drop i) < s.length → p.contains (pk s (i + runN p (s.drop i))) = false)
  | 0, i, h => by
    rw [runN_end (by omega)]
    exact ⟨fun k hk => by omega, fun h2 => by omega⟩
  | d + 1, i, h => by
    cases hc : p.contains (pk s i) with
    | false =>
      rw [runN_out hc (by omega)]
      exact ⟨fun k hk => by omega, fun _ => hc⟩
    | true =>
      obtain ⟨h1, h2⟩ := runN_all p s d (i + 1) (by omega)
      rw [runN_in (by omega) hc]
      have e : ∀ n, i + (n + 1) = i + 1 + n := fun n => by omega
      refine ⟨fun k hk => ?_, ?_⟩
      · cases k with
        | zero => exact ⟨by omega, hc⟩
        | succ k => rw [e]; exact h1 k (by omega)
      · rw [e]; exact h2
theorem runN_is (p t : List UInt8) : ∀ (n j : Nat), (∀ k, k < n → j + k < t.length ∧ p.contains (pk t (j + k)) = true) → (j + n < t.length → p.contains (pk t (j + n)) = false) → runN p (t.drop j) = n
  | 0, j, _, h2 => by
    by_cases hj : j < t.length
    · exact runN_out (h2 hj) hj
    · exact runN_end (by omega)
  | n + 1, j, h1, h2 => by
    have h0 := h1 0 (by omega)
    have g0 : p.contains (pk t j) = true := h0.2
    have l0 : j < t.length := h0.1
    rw [runN_in l0 g0, runN_is p t n (j + 1) (fun k hk => by have := h1 (k + 1) (by omega); rwa [show j + 1 + k = j + (k + 1) by omega]) (by rwa [show j + 1 + n = j + (n + 1) by omega])]
theorem runN_lo {p : List UInt8} (hp : ∀ c, gapB.contains c = true → p.contains c = false) (h : Lo s i t j m) (hr : runN p (s.drop i) ≤ m) : runN p (t.drop j) = runN p (s.drop i) := by
  obtain ⟨h1, h2⟩ := runN_all p s _ i rfl
  refine runN_is p t _ j (fun k hk => ?_) (fun hl => ?_)
  · have := h.1.2.1
    exact ⟨by omega, by rw [h.1.2.2 k (by omega)]; exact (h1 k hk).2⟩
  · rcases h.fo _ hr hl with g | ⟨g1, g2⟩
    · exact hp _ g
    · rw [g2]; exact h2 g1
theorem gap_sub {p : List UInt8} (h : (gapB.all fun c => !p.contains c) = true) : ∀ c, gapB.contains c = true → p.contains c = false := by
  intro c hc
  have := List.all_eq_true.1 h c (by simpa using hc)
  simpa using this
theorem gap_dig : ∀ c, gapB.contains c = true → digB.contains c = false := gap_sub (by decide)
theorem gap_let : ∀ c, gapB.contains c = true → (letB ++ digB).contains c = false := gap_sub (by decide)
theorem gap_num : ∀ c, gapB.contains c = true → (letB ++ digB ++ [46]).contains c = false := gap_sub (by decide)

/-! ### numbers -/
theorem skips_lo (h : Lo s i t j m) {c : UInt8} (hc : gapB.contains c = false) (hm : skips s i c = true → 1 ≤ m) : skips t j c = skips s i c := by
  cases h1 : skips s i c with
  | true =>
    have hm := hm h1
    unfold skips at h1 ⊢
    simp only [Bool.and_eq_true, decide_eq_true_eq, beq_iff_eq] at h1 ⊢
    exact ⟨by have := h.1.2.1; omega, by rw [h.1.pk0 hm]; exact h1.2⟩
  | false =>
    by_cases hj : j < t.length
    · rcases h.fo 0 (by omega) hj with g | ⟨g1, g2⟩
      · unfold skips
        have : (pk t j == c) = false := by
          cases e : pk t j == c with
          | false => rfl
          | true =>
            have e := eq_of_beq e
            have g : gapB.contains (pk t j) = true := g
            rw [e, hc] at g
            cases g
        rw [this, Bool.and_false]
      · have g1 : i < s.length := g1
        have g2 : pk t j = pk s i := g2
        unfold skips at h1 ⊢
        rw [g2, decide_eq_true hj]
        rw [decide_eq_true g1] at h1
        exact h1
    · unfold skips
      rw [decide_eq_false hj]
      rfl
theorem sgn_lo (h : Lo s i t j m) {c : UInt8} (hc : gapB.contains c = false) (hm : sgn s i c ≤ i + m) : ∃ d, sgn s i c = i + d ∧ d ≤ m ∧ sgn t j c = j + d := by
  have e := skips_lo h hc (fun h1 => by unfold sgn at hm; rw [if_pos h1] at hm; omega)
  unfold sgn at hm ⊢
  rw [e]
  split
  · rename_i h1
    rw [if_pos h1] at hm
    exact ⟨1, rfl, by omega, rfl⟩
  · exact ⟨0, rfl, by omega, rfl⟩
theorem digs_lo (h : Lo s i t j m) {x : Nat} (hx : digs s i = some x) (hm : x ≤ i + m) : ∃ d, x = i + d ∧ 1 ≤ d ∧ d ≤ m ∧ digs t j = some (j + d) := by
  unfold digs at hx ⊢
  split at hx
  · rename_i h0
    injection hx with hx
    rw [runN_lo gap_dig h (by omega), if_pos h0]
    exact ⟨_, hx.symm, h0, by omega, rfl⟩
  · cases hx
theorem num2_lo (h : Lo s i t j m) {x : Nat} (hx : num2 s i = some x) (hm : x ≤ i + m) : ∃ d, x = i + d ∧ 1 ≤ d ∧ d ≤ m ∧ num2 t j = some (j + d) := by
  unfold num2 at hx ⊢
  by_cases h0 : pk s i = 48
  · rw [if_pos h0] at hx
    injection hx with hx
    rw [h.1.pk0 (by omega), if_pos h0]
    exact ⟨1, hx.symm, Nat.le_refl _, by omega, rfl⟩
  · rw [if_neg h0] at hx
    obtain ⟨d, h1, h2, h3, h4⟩ := digs_lo h hx hm
    rw [h.1.pk0 (by omega), if_neg h0]
    exact ⟨d, h1, h2, h3, h4⟩
theorem num3_lo (h : Lo s i t j m) {x : Nat} {k : Int} (hx : num3 s i = some (x, k)) (hm : x ≤ i + m) : ∃ d, x = i + d ∧ d ≤ m ∧ num3 t j = some (j + d, k) := by
  unfold num3 at hx ⊢
  by_cases h0 : skips s i 46 = true
  · rw [if_pos h0] at hx
    obtain ⟨y, hy, e⟩ := Option.map_eq_some_iff.1 hx
    injection e with e1 e2
    subst e1 e2
    have hy1 : i + 1 < y := by
      unfold digs at hy
      split at hy
      · injection hy with hy
        omega
      · cases hy
    rw [skips_lo h (by decide) (fun _ => by omega), if_pos h0]
    obtain ⟨d, h1, h2, h3, h4⟩ := digs_lo (h.shift 1 (by omega)) hy (by omega)
    rw [h4]
    exact ⟨1 + d, by omega, by omega, by simp [Nat.add_assoc]⟩
  · rw [if_neg h0] at hx
    injection hx with hx
    injection hx with e1 e2
    subst e1 e2
    rw [skips_lo h (by decide) (fun e => absurd e h0), if_neg h0]
    exact ⟨0, rfl, by omega, rfl⟩
theorem esgn_lo (h : Lo s i t j m) (hm : esgn s i ≤ i + m) : ∃ d, esgn s i = i + d ∧ d ≤ m ∧ esgn t j = j + d := by
  unfold esgn at hm ⊢
  by_cases h0 : skips s i 43 = true
  · rw [if_pos h0] at hm ⊢
    rw [skips_lo h (by decide) (fun _ => by omega), if_pos h0]
    exact ⟨1, rfl, by omega, rfl⟩
  · rw [if_neg h0] at hm ⊢
    rw [skips_lo h (by decide) (fun e => absurd e h0), if_neg h0]
    exact sgn_lo h (by decide) hm
theorem digs_gt {s : List UInt8} {i x : Nat} (h : digs s i = some x) : i < x := by
  unfold digs at h
  split at h
  · injection h with h
    omega
  · cases h
theorem num4_lo (h : Lo s i t j m) {x : Nat} {k0 k : Int} (hx : num4 s i k0 = some (x, k)) (hm : x ≤ i + m) : ∃ d, x = i + d ∧ d ≤ m ∧ num4 t j k0 = some (j + d, k) := by
  unfold num4 at hx ⊢
  by_cases h0 : (skips s i 101 || skips s i 69) = true
  · rw [if_pos h0] at hx
    obtain ⟨y, hy, e⟩ := Option.map_eq_some_iff.1 hx
    injection e with e1 e2
    subst e1 e2
    have hy1 := digs_gt hy
    have hy2 := esgn_ge s (i + 1)
    rw [skips_lo h (by decide) (fun _ => by omega), skips_lo h (by decide) (fun _ => by omega), if_pos h0]
    obtain ⟨a, a1, a2, a3⟩ := esgn_lo (h.shift 1 (by omega)) (by omega)
    rw [a1] at hy
    rw [a3]
    obtain ⟨d, h1, h2, h3, h4⟩ := digs_lo ((h.shift 1 (by omega)).shift a a2) hy (by omega)
    rw [h4]
    exact ⟨1 + a + d, by omega, by omega, by simp [Nat.add_assoc]⟩
  · rw [if_neg h0] at hx
    injection hx with hx
    injection hx with e1 e2
    subst e1 e2
    simp only [Bool.or_eq_true, not_or] at h0
    rw [skips_lo h (by decide) (fun e => absurd e h0.1), skips_lo h (by decide) (fun e => absurd e h0.2), if_neg (by simp [h0])]
    exact ⟨0, rfl, by omega, rfl⟩
theorem numEnd_lo (h : Lo s i t j 0) (he : numEnd s i = true) : numEnd t j = true := by
  unfold numEnd at he ⊢
  simp only [Bool.or_eq_true, decide_eq_true_eq, Bool.not_eq_true'] at he ⊢
  by_cases hj : j < t.length
  · right
    rcases h.fo 0 (by omega) hj with g | ⟨g1, g2⟩
    · exact gap_num _ g
    · have g1 : i < s.length := g1
      have g2 : pk t j = pk s i := g2
      rw [g2]
      exact he.resolve_left (by omega)
  · left
    have := h.1.2.1
    omega
theorem num_lo {e : Nat} {k : Int} (h : num s i = some (e, k)) (hl : Lo s i t j (e - i)) (hie : i ≤ e) : num t j = some (j + (e - i), k) := by
  unfold num at h ⊢
  obtain ⟨x, hx, h⟩ := Option.bind_eq_some_iff.1 h
  obtain ⟨⟨y, ky⟩, hy, h⟩ := Option.bind_eq_some_iff.1 h
  obtain ⟨⟨z, kz⟩, hz, h⟩ := Option.bind_eq_some_iff.1 h
  split at h
  case isFalse => cases h
  rename_i he
  injection h with h
  injection h with e1 e2
  subst e1 e2
  simp only at hz he hie hl ⊢
  -- the places stand in order
  have o1 : i ≤ sgn s i 45 := by unfold sgn; split <;> omega
  have o2 : sgn s i 45 < x := by
    unfold num2 at hx
    split at hx
    · injection hx with hx; omega
    · exact digs_gt hx
  have o3 : x ≤ y := by
    unfold num3 at hy
    split at hy
    · obtain ⟨y', hy', e⟩ := Option.map_eq_some_iff.1 hy
      have := digs_gt hy'
      injection e with e1 e2
      omega
    · injection hy with hy
      injection hy with e1 e2
      omega
  have o4 : y ≤ z := by
    unfold num4 at hz
    split at hz
    · obtain ⟨y', hy', e⟩ := Option.map_eq_some_iff.1 hz
      have := digs_gt hy'
      have := esgn_ge s (y + 1)
      injection e with e1 e2
      omega
    · injection hz with hz
      injection hz with e1 e2
      omega
  obtain ⟨a, a1, a2, a3⟩ := sgn_lo hl (c := 45) (by decide) (by omega)
  rw [a1] at hx
  rw [a3]
  have l1 := hl.shift a a2
  obtain ⟨b, b1, b0, b2, b3⟩ := num2_lo l1 hx (by omega)
  rw [b3]
  subst b1
  have l2 := l1.shift b b2
  obtain ⟨c, c1, c2, c3⟩ := num3_lo l2 hy (by omega)
  subst c1
  have l3 := l2.shift c c2
  obtain ⟨d, d1, d2, d3⟩ := num4_lo l3 hz (by omega)
  subst d1
  have l4 := l3.shift d d2
  have e4 : i + a + b + c + d - i - a - b - c - d = 0 := by omega
  rw [e4] at l4
  have he2 := numEnd_lo l4 he
  simp only [Option.bind_some, c3, d3]
  rw [if_pos he2]
  have e5 : j + a + b + c + d = j + (i + a + b + c + d - i) := by omega
  rw [e5]

/-! ### texts -/
theorem esc_lo {e : Nat} {l : List UInt8} (h : esc s i = some (l, e)) (ha : Ag s i t j (e - i)) : esc t j = some (l, j + (e - i)) := by
  have hle := esc_le h
  have a2 := ha.2.1
  have hp := ha.pk0 (by omega)
  unfold esc at h ⊢
  rw [if_neg (by omega)] at h
  rw [if_neg (by omega), hp]
  split at h
  · rename_i h1
    rw [if_pos h1]
    injection h with h
    injection h with e1 e2
    subst e1 e2
    have : j + (i + 1 - i) = j + 1 := by omega
    rw [this]
  · rename_i h1
    rw [if_neg h1]
    split at h
    · rename_i h2
      rw [if_pos h2]
      split at h
      · rename_i h3
        injection h with h
        injection h with e1 e2
        have hk : ∀ k, k < 5 → pk t (j + k) = pk s (i + k) := fun k hk => ha.2.2 k (by omega)
        have h4 : hex4 t (j + 1) = true := by
          unfold hex4 at h3 ⊢
          have q1 := hk 1 (by omega)
          have q2 := hk 2 (by omega)
          have q3 := hk 3 (by omega)
          have q4 := hk 4 (by omega)
          simp only [Nat.add_assoc, Nat.reduceAdd] at h3 q1 q2 q3 q4 ⊢
          rw [q1, q2, q3, q4]
          simp only [Bool.and_eq_true, decide_eq_true_eq] at h3 ⊢
          exact ⟨by omega, h3.2⟩
        rw [if_pos h4, ((ha.shift 1 (by omega)).mono (n := 4) (by omega)).take, e1, ← e2]
        have : j + (i + 5 - i) = j + 5 := by omega
        rw [this]
      · cases h
    · cases h
end
theorem textGo_lo (s t : List UInt8) : ∀ (d : Nat) (i j e : Nat) (l : List UInt8), textGo s d i = some (l, e) → ∀ d', e - i ≤ d' → Ag s i t j (e - i) → textGo t d' j = some (l, j + (e - i))
  | 0, i, j, e, l, h, d', hd, ha => by cases h
  | d + 1, i, j, e, l, h, 0, hd, ha => by
    have := textGo_le s _ _ _ _ h
    omega
  | d + 1, i, j, e, l, h, d' + 1, hd, ha => by
    have hle := textGo_le s _ _ _ _ h
    simp only [textGo] at h ⊢
    cases hs : src (s.drop i) with
    | none => rw [hs] at h; cases h
    | some p =>
      obtain ⟨c, k⟩ := p
      rw [hs] at h
      have hk := src_le hs
      simp only [List.length_drop] at hk
      simp only at h
      split at h
      · cases h
      · rename_i h1
        split at h
        · rename_i h2
          injection h with h
          injection h with e1 e2
          subst e1 e2
          rw [ha.src hs (by omega)]
          simp only
          rw [if_neg h1, if_pos h2]
          have : j + (i + k - i) = j + k := by omega
          rw [this]
        · rename_i h2
          split at h
          · rename_i h3
            obtain ⟨⟨l1, m⟩, g1, g2⟩ := Option.bind_eq_some_iff.1 h
            obtain ⟨⟨l2, e2⟩, g3, g4⟩ := Option.map_eq_some_iff.1 g2
            have a := esc_le g1
            have b := textGo_le s d m e2 l2 g3
            injection g4 with g4 g5
            simp only at g4 g5
            subst g5
            rw [ha.src hs (by omega)]
            simp only
            rw [if_neg h1, if_neg h2, if_pos h3, esc_lo g1 ((ha.shift k (by omega)).mono (by omega))]
            simp only [Option.bind_some]
            have ag := ha.shift (m - i) (by omega)
            rw [show i + (m - i) = m by omega, show e2 - i - (m - i) = e2 - m by omega] at ag
            rw [show j + k + (m - (i + k)) = j + (m - i) by omega, textGo_lo s t d m (j + (m - i)) e2 l2 g3 d' (by omega) ag]
            simp only [Option.map_some]
            rw [g4, show j + (m - i) + (e2 - m) = j + (e2 - i) by omega]
          · rename_i h3
            obtain ⟨⟨l2, e2⟩, g3, g4⟩ := Option.map_eq_some_iff.1 h
            have b := textGo_le s d (i + k) e2 l2 g3
            injection g4 with g4 g5
            simp only at g4 g5
            subst g5
            rw [ha.src hs (by omega)]
            simp only
            rw [if_neg h1, if_neg h2, if_neg h3]
            have ag := ha.shift k (by omega)
            rw [show e2 - i - k = e2 - (i + k) by omega] at ag
            rw [textGo_lo s t d (i + k) (j + k) e2 l2 g3 d' (by omega) ag, (ha.mono (n := k) (by omega)).take]
            simp only [Option.map_some]
            rw [g4, show j + k + (e2 - (i + k)) = j + (e2 - i) by omega]
theorem textP_lo {s t : List UInt8} {i j e : Nat} {l : List UInt8} (h : textP s i = some (l, e)) (ha : Ag s i t j (e - i)) : textP t j = some (l, j + (e - i)) :=
  textGo_lo s t _ i j e l h _ (by have := ha.2.1; omega) ha
theorem rawGo_ge (s : List UInt8) : ∀ (d j e : Nat) (l : List UInt8), rawGo s d j = some (l, e) → j + 3 ≤ e
  | 0, j, e, l, h => by cases h
  | d + 1, j, e, l, h => by
    simp only [rawGo] at h
    split at h
    · obtain ⟨⟨l2, e2⟩, h3, h4⟩ := Option.map_eq_some_iff.1 h
      have b := rawGo_ge s d (j + 4) e2 l2 h3
      injection h4 with h4 h5
      simp only at h5
      omega
    · split at h
      · injection h with h
        injection h with h2 h3
        omega
      · cases hs : src (s.drop j) with
        | none => rw [hs] at h; cases h
        | some p =>
          obtain ⟨c, k⟩ := p
          rw [hs] at h
          obtain ⟨⟨l2, e2⟩, h3, h4⟩ := Option.map_eq_some_iff.1 h
          have b := rawGo_ge s d (j + k) e2 l2 h3
          injection h4 with h4 h5
          simp only at h5
          omega
theorem rawGo_lo (s t : List UInt8) : ∀ (d : Nat) (i j e : Nat) (l : List UInt8), rawGo s d i = some (l, e) → ∀ d', e - i ≤ d' → Ag s i t j (e - i) → rawGo t d' j = some (l, j + (e - i))
  | 0, i, j, e, l, h, d', hd, ha => by cases h
  | d + 1, i, j, e, l, h, 0, hd, ha => by
    have := rawGo_le s _ _ _ _ h
    omega
  | d + 1, i, j, e, l, h, d' + 1, hd, ha => by
    have hle := rawGo_le s _ _ _ _ h
    simp only [rawGo] at h ⊢
    split at h
    · rename_i h1
      obtain ⟨⟨l2, e2⟩, g3, g4⟩ := Option.map_eq_some_iff.1 h
      have b := rawGo_ge s d (i + 4) e2 l2 g3
      injection g4 with g4 g5
      simp only at g4 g5
      subst g5
      have ag := ha.shift 4 (by omega)
      rw [show e2 - i - 4 = e2 - (i + 4) by omega] at ag
      rw [ha.has eqqB (by show 4 ≤ _; omega), if_pos h1, rawGo_lo s t d (i + 4) (j + 4) e2 l2 g3 d' (by omega) ag]
      simp only [Option.map_some]
      rw [g4, show j + 4 + (e2 - (i + 4)) = j + (e2 - i) by omega]
    · rename_i h1
      split at h
      · rename_i h2
        injection h with h
        injection h with e1 e2
        subst e1 e2
        have n1 : ¬ hasP t j eqqB = true := fun e => by
          have := has_head e
          have := has_head h2
          have := ha.pk0 (by omega)
          simp_all
        rw [if_neg n1, ha.has qqqB (by show 3 ≤ _; omega), if_pos h2]
        have : j + (i + 3 - i) = j + 3 := by omega
        rw [this]
      · rename_i h2
        cases hs : src (s.drop i) with
        | none => rw [hs] at h; cases h
        | some p =>
          obtain ⟨c, k⟩ := p
          rw [hs] at h
          have hk := src_le hs
          simp only [List.length_drop] at hk
          simp only at h
          obtain ⟨⟨l2, e2⟩, g3, g4⟩ := Option.map_eq_some_iff.1 h
          have b := rawGo_ge s d (i + k) e2 l2 g3
          injection g4 with g4 g5
          simp only at g4 g5
          subst g5
          have ag := ha.shift k (by omega)
          rw [show e2 - i - k = e2 - (i + k) by omega] at ag
          rw [ha.has eqqB (by show 4 ≤ _; omega), if_neg h1, ha.has qqqB (by show 3 ≤ _; omega), if_neg h2, ha.src hs (by omega)]
          simp only
          rw [rawGo_lo s t d (i + k) (j + k) e2 l2 g3 d' (by omega) ag, (ha.mono (n := k) (by omega)).take]
          simp only [Option.map_some]
          rw [g4, show j + k + (e2 - (i + k)) = j + (e2 - i) by omega]
theorem blockS_lo {s t : List UInt8} {i j e : Nat} {l : List UInt8} (h : blockS s i = some (l, e)) (ha : Ag s i t j (e - i)) : blockS t j = some (l, j + (e - i)) := by
  have hle := blockS_le h
  unfold blockS at h ⊢
  obtain ⟨⟨l2, e2⟩, g3, g4⟩ := Option.map_eq_some_iff.1 h
  obtain ⟨q4, q5⟩ := Prod.mk.inj (show (blockP l2, e2) = (l, e) from g4)
  clear g4
  subst q5
  have ag := ha.shift 3 (by omega)
  rw [show e2 - i - 3 = e2 - (i + 3) by omega] at ag
  have a2 := ha.2.1
  unfold rawP at g3 ⊢
  rw [rawGo_lo s t _ (i + 3) (j + 3) e2 l2 g3 _ (by omega) ag]
  simp only [Option.map_some]
  rw [q4, show j + 3 + (e2 - (i + 3)) = j + (e2 - i) by omega]

/-! ### tokens -/
theorem tok_lo {s t : List UInt8} {i j e : Nat} {k : Int} {l : List UInt8} (hi : i < s.length) (h : tok1 s i = .ok (k, l, e)) (hl : Lo s i t j (e - i)) : tok1 t j = .ok (k, l, j + (e - i)) := by
  have hle := tok1_le hi h
  have hp := hl.1.pk0 (by omega)
  have hr := hl.1.take
  unfold tok1 at h ⊢
  rw [hp]
  split at h
  · rename_i h1
    injection h with h; injection h with e1 h; injection h with e2 e3
    rw [hl.1.has dotsB (by show 3 ≤ _; omega), if_pos h1, e1, ← e2, ← e3]
    rw [← e3] at hr
    rw [show j + 3 - j = i + 3 - i by omega, hr, show j + 3 = j + (i + 3 - i) by omega]
  · rename_i h1
    have hp46 : pk s i ≠ 46 := fun e46 => by
      rw [e46] at h
      rw [if_neg (by decide), if_neg (by decide), if_neg (by decide), if_neg (fun e => by have := (has_head e).2; rw [e46] at this; cases this), if_neg (by decide)] at h
      cases h
    rw [if_neg (fun e => hp46 (by have := (has_head e).2; rw [← hp]; exact this))]
    split at h
    · rename_i h2
      injection h with h; injection h with e1 h; injection h with e2 e3
      rw [if_pos h2, e1, ← e2, ← e3]
      rw [← e3] at hr
      rw [show j + 1 - j = i + 1 - i by omega, hr, show j + 1 = j + (i + 1 - i) by omega]
    · rename_i h2
      rw [if_neg h2]
      split at h
      · rename_i h3
        injection h with h; injection h with e1 h; injection h with e2 e3
        have hn := runN_lo gap_let hl (by omega)
        rw [if_pos h3, hn, e1, ← e2, ← e3]
        rw [← e3] at hr
        obtain ⟨R, hR⟩ : ∃ R, R = runN (letB ++ digB) (s.drop i) := ⟨_, rfl⟩
        rw [← hR] at hr ⊢
        rw [show j + R - j = i + R - i by omega, hr, show j + R = j + (i + R - i) by omega]
      · rename_i h3
        rw [if_neg h3]
        split at h
        · rename_i h4
          rw [if_pos h4]
          cases hn : num s i with
          | none => rw [hn] at h; cases h
          | some p =>
            obtain ⟨e', k'⟩ := p
            rw [hn] at h
            injection h with h; injection h with e1 h; injection h with e2 e3
            subst e3
            rw [num_lo hn hl (by omega)]
            simp only
            rw [e1, ← e2, show j + (e' - i) - j = e' - i by omega, hr]
        · rename_i h4
          rw [if_neg h4]
          split at h
          · rename_i h5
            cases hn : blockS s i with
            | none => rw [hn] at h; cases h
            | some p =>
              obtain ⟨l', e'⟩ := p
              rw [hn] at h
              injection h with h; injection h with e1 h; injection h with e2 e3
              subst e3
              have hb := blockS_le hn
              rw [hl.1.has qqqB (by show 3 ≤ _; omega), if_pos h5, blockS_lo hn hl.1]
              simp only
              rw [e1, e2]
          · rename_i h5
            split at h
            · rename_i h6
              cases hn : textP s (i + 1) with
              | none => rw [hn] at h; cases h
              | some p =>
                obtain ⟨l', e'⟩ := p
                rw [hn] at h
                injection h with h; injection h with e1 h; injection h with e2 e3
                subst e3
                have hb := textP_le hn
                have n5 : ¬ hasP t j qqqB = true := fun e => by
                  obtain ⟨q0, q1, q2, q3⟩ := has3.1 e
                  have p1 := hl.1.2.2 1 (by omega)
                  rcases hl.fo 2 (by omega) (by omega) with g | ⟨g1, g2⟩
                  · rw [q3] at g
                    cases g
                  · exact h5 (has3.2 ⟨by omega, by rw [← hp]; exact q1, by rw [← p1]; exact q2, by rw [← g2]; exact q3⟩)
                rw [if_neg n5, if_pos h6]
                have ag := hl.1.shift 1 (by omega)
                rw [show e' - i - 1 = e' - (i + 1) by omega] at ag
                rw [textP_lo hn ag]
                simp only
                rw [e1, e2, show j + 1 + (e' - (i + 1)) = j + (e' - i) by omega]
            · cases h

end Go.Proofs.YtbmfmnkfdfdjbaaGreatDoor.D
