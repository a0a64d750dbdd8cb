/-
  Plain laws: what is left, sector by sector; writes while the power is armed.
-/
import Derived.Test.YtjkhcfdflcndkaaPW
namespace Go.Proofs.Ytjkhcfdflcndkaa.D
set_option linter.unusedVariables false
set_option linter.unusedSimpArgs false

theorem piece_putAt {b l : List UInt8} {m k : Nat} (hl : l.length = 64) (hb : 64 * m + 64 ≤ b.length) : piece (putAt b m l) k = if k = m then l else piece b k := by
  have e1 : (b.take (64 * m)).length = 64 * m := by rw [List.length_take]; omega
  split
  · rename_i h
    subst h
    simp only [piece, putAt, List.append_assoc]
    rw [List.drop_append_of_le_length (by omega), List.drop_of_length_le (by omega), List.nil_append, List.take_append_of_le_length (by omega), List.take_of_length_le (by omega)]
  · rename_i h
    apply List.ext_getElem?
    intro i
    simp only [piece, putAt, List.append_assoc]
    by_cases hi : i < 64
    · rw [List.getElem?_take_of_lt hi, List.getElem?_take_of_lt hi, List.getElem?_drop, List.getElem?_drop]
      by_cases h2 : k < m
      · rw [List.getElem?_append_left (by omega), List.getElem?_take_of_lt (by omega)]
      · rw [List.getElem?_append_right (by omega), e1, List.getElem?_append_right (by omega), List.getElem?_drop, hl]
        congr 1
        omega
    · rw [List.getElem?_eq_none (by rw [List.length_take]; omega), List.getElem?_eq_none (by rw [List.length_take]; omega)]

theorem leftGo_append (c : Nat → Bool) (un : Nat → Option (List UInt8)) : ∀ (L1 L2 : List Nat) (i : Nat) (b : List UInt8), leftGo c un i (L1 ++ L2) b = leftGo c un (i + L1.length) L2 (leftGo c un i L1 b)
  | [], L2, i, b => rfl
  | k :: L1, L2, i, b => by
    rw [List.cons_append, leftGo, leftGo_append c un L1 L2 (i + 1), leftGo]
    congr 1
    simp only [List.length_cons]; omega

/-- How many unsafe sectors lie ahead of the k-th. -/
def cnt (un : Nat → Option (List UInt8)) (k : Nat) : Nat := ((List.range k).filter (fun i => (un i).isSome)).length

def upto (c : Nat → Bool) (un : Nat → Option (List UInt8)) (b : List UInt8) (m : Nat) : List UInt8 := leftGo c un 0 ((List.range m).filter (fun i => (un i).isSome)) b

theorem upto_succ (c : Nat → Bool) (un : Nat → Option (List UInt8)) (b : List UInt8) (m : Nat) : upto c un b (m + 1) = match un m with
    | some l => if c (cnt un m) then putAt (upto c un b m) m l else upto c un b m
    | none => upto c un b m := by
  unfold upto
  rw [List.range_succ, List.filter_append]
  cases hu : un m with
  | none => simp [hu]
  | some l =>
    have e : List.filter (fun i => (un i).isSome) [m] = [m] := by simp [hu]
    rw [e, leftGo_append, leftGo, leftGo, hu, Nat.zero_add]
    rfl

theorem upto_piece (c : Nat → Bool) (un : Nat → Option (List UInt8)) (b : List UInt8) (n : Nat) (hb : b.length = 64 * n) (hun : ∀ i l, un i = some l → l.length = 64) :
    ∀ m, m ≤ n → (upto c un b m).length = b.length ∧ ∀ k, piece (upto c un b m) k = if k < m ∧ (un k).isSome = true ∧ c (cnt un k) = true then (un k).getD [] else piece b k
  | 0, _ => ⟨rfl, fun k => by rw [if_neg (by omega)]; rfl⟩
  | m + 1, hm => by
    obtain ⟨h1, h2⟩ := upto_piece c un b n hb hun m (by omega)
    rw [upto_succ]
    cases hu : un m with
    | none =>
      refine ⟨h1, fun k => ?_⟩
      simp only
      rw [h2 k]
      by_cases hk : k = m
      · subst hk
        rw [if_neg (by simp [hu]), if_neg (by simp [hu])]
      · by_cases hk2 : k < m ∧ (un k).isSome = true ∧ c (cnt un k) = true
        · rw [if_pos hk2, if_pos ⟨by omega, hk2.2⟩]
        · rw [if_neg hk2, if_neg (fun h => hk2 ⟨by omega, h.2⟩)]
    | some l =>
      have hl := hun m l hu
      simp only
      cases hc : c (cnt un m) with
      | false =>
        simp only [Bool.false_eq_true, if_false]
        refine ⟨h1, fun k => ?_⟩
        rw [h2 k]
        by_cases hk : k = m
        · subst hk
          rw [if_neg (by omega), if_neg (by simp [hc])]
        · by_cases hk2 : k < m ∧ (un k).isSome = true ∧ c (cnt un k) = true
          · rw [if_pos hk2, if_pos ⟨by omega, hk2.2⟩]
          · rw [if_neg hk2, if_neg (fun h => hk2 ⟨by omega, h.2⟩)]
      | true =>
        simp only [if_true]
        refine ⟨(putAt_length (by rw [h1]; omega)).trans h1, fun k => ?_⟩
        rw [piece_putAt hl (by rw [h1]; omega)]
        by_cases hk : k = m
        · subst hk
          rw [if_pos rfl, if_pos ⟨by omega, by simp [hu], hc⟩, hu]
          rfl
        · rw [if_neg hk, h2 k]
          by_cases hk2 : k < m ∧ (un k).isSome = true ∧ c (cnt un k) = true
          · rw [if_pos hk2, if_pos ⟨by omega, hk2.2⟩]
          · rw [if_neg hk2, if_neg (fun h => hk2 ⟨by omega, h.2⟩)]

/-- What is left, sector by sector. -/
theorem left_piece {s : St} (hs : s.Ok) (c : Nat → Bool) (k : Nat) : piece (s.left c) k = if (s.un k).isSome = true ∧ c (cnt s.un k) = true then (s.un k).getD [] else piece s.safe k := by
  have h := (upto_piece c s.un s.safe s.n hs.safe (fun i l h => (hs.un i l h).2) s.n (Nat.le_refl _)).2 k
  show piece (upto c s.un s.safe s.n) k = _
  rw [h]
  by_cases h1 : (s.un k).isSome = true ∧ c (cnt s.un k) = true
  · obtain ⟨l, hl⟩ := Option.isSome_iff_exists.1 h1.1
    rw [if_pos ⟨(hs.un k l hl).1, h1⟩, if_pos h1]
  · rw [if_neg (fun h => h1 h.2), if_neg h1]

/-- A sector as it is read. -/
def sec (s : St) (k : Nat) : List UInt8 := (s.un k).getD (piece s.safe k)
theorem image_piece {s : St} (hs : s.Ok) (k : Nat) : piece s.image k = sec s k := by
  unfold St.image sec
  rw [left_piece hs]
  cases hu : s.un k with
  | none => simp
  | some l => simp

theorem unl_none {s : St} (h : s.un = fun _ => none) : s.unl = [] := by simp [St.unl, h]
theorem image_none {s : St} (h : s.un = fun _ => none) : s.image = s.safe := by
  unfold St.image St.left
  rw [unl_none h]
  rfl

theorem wun_step (m k : Nat) (l : List UInt8) (s : St) : wun m (k + 1) (l.drop 64) (s.wr1 k (l.take 64)).un = wun (m + 1) k l s.un := by
  funext j
  simp only [wun, St.wr1]
  by_cases h1 : k + 1 ≤ j ∧ j < k + 1 + m
  · rw [if_pos h1, if_pos (by omega), piece_drop]
    congr 2
    omega
  · rw [if_neg h1]
    by_cases h2 : j = k
    · subst h2
      rw [if_pos rfl, if_pos (by omega)]
      simp [piece]
    · rw [if_neg h2, if_neg (by omega)]

/-- Writes while the power is armed. -/
theorem wrs_armed : ∀ (m k : Nat) (l : List UInt8) (s : St), 0 < s.armed →
    wrs m k l s = if m < s.armed then ({ s with un := wun m k l s.un, armed := s.armed - m }, false) else (({ s with un := wun s.armed k l s.un, armed := 0 } : St).dies s.kept, true)
  | 0, k, l, s, h => by
    have e : wun 0 k l s.un = s.un := by
      funext j
      simp only [wun]
      rw [if_neg (by omega)]
    rw [wrs, if_pos h, e]
    rfl
  | m + 1, k, l, s, h => by
    have h1 : (s.wr1 k (l.take 64)).step = ({ s.wr1 k (l.take 64) with armed := s.armed - 1 }, s.armed == 1) := by
      have : s.armed ≠ 0 := by omega
      simp [St.step, St.wr1, this]
    rw [wrs, h1]
    by_cases ha : s.armed = 1
    · rw [if_pos (by simp [ha]), if_neg (by omega)]
      have e := wun_step 0 k l s
      have e0 : wun 0 (k + 1) (l.drop 64) (s.wr1 k (l.take 64)).un = (s.wr1 k (l.take 64)).un := by
        funext j
        simp only [wun]
        rw [if_neg (by omega)]
      rw [e0] at e
      rw [ha, ← e]
      rfl
    · rw [if_neg (by simp [ha])]
      rw [wrs_armed m (k + 1) (l.drop 64) { s.wr1 k (l.take 64) with armed := s.armed - 1 } (by show 0 < s.armed - 1; omega)]
      have e := wun_step m k l s
      have e2 := wun_step (s.armed - 1) k l s
      have e3 : s.armed - 1 + 1 = s.armed := by omega
      rw [e3] at e2
      by_cases hm : m + 1 < s.armed
      · rw [if_pos (by show m < s.armed - 1; omega), if_pos hm]
        show ({ s with un := wun m (k + 1) (l.drop 64) (s.wr1 k (l.take 64)).un, armed := s.armed - 1 - m }, false) = _
        rw [e]
        congr 2
        omega
      · rw [if_neg (by show ¬ m < s.armed - 1; omega), if_neg hm]
        show ((({ s with un := wun (s.armed - 1) (k + 1) (l.drop 64) (s.wr1 k (l.take 64)).un, armed := 0 } : St).dies s.kept), true) = _
        rw [e2]

/-- How many lie ahead, where just those from a on, m of them, are unsafe. -/
theorem cnt_wun (m a : Nat) (l : List UInt8) : ∀ k, a ≤ k → k ≤ a + m → cnt (wun m a l (fun _ => none)) k = k - a := by
  intro k h1 h2
  have key : ∀ d, d ≤ m → cnt (wun m a l (fun _ => none)) (a + d) = d := by
    intro d
    induction d with
    | zero =>
      intro _
      unfold cnt
      rw [List.filter_eq_nil_iff.2]
      · rfl
      · intro x hx
        have := List.mem_range.1 hx
        simp only [wun]
        rw [if_neg (by omega)]
        simp
    | succ d ih =>
      intro hd
      have h := ih (by omega)
      unfold cnt at h ⊢
      rw [← Nat.add_assoc, List.range_succ, List.filter_append, List.length_append, h]
      have : (wun m a l (fun _ => none) (a + d)).isSome = true := by
        simp only [wun]
        rw [if_pos (by omega)]
        rfl
      simp [this]
  have := key (k - a) (by omega)
  rwa [show a + (k - a) = k by omega] at this

end Go.Proofs.Ytjkhcfdflcndkaa.D
