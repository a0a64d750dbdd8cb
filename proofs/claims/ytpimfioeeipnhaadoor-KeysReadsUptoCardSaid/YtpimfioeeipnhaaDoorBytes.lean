/-
  Byte strings in their order, numbers in eight bytes, texts whose zeros are marked, what stands behind all that begin so: plain laws. No condition.
-/
import Derived.Test.YtpimfioeeipnhaaDoorHand3
namespace Go.Proofs.YtpimfioeeipnhaaDoor.Pl
open Go.Proofs.YtpimfioeeipnhaaDoor.Hand Go.Lib
set_option linter.unusedVariables false
set_option linter.unusedSimpArgs false

theorem u8_tri (a b : UInt8) : a < b ∨ a = b ∨ b < a := by
  rcases Nat.lt_trichotomy a.toNat b.toNat with h | h | h
  · exact .inl (UInt8.lt_iff_toNat_lt.mpr h)
  · exact .inr (.inl (UInt8.toNat_inj.mp h))
  · exact .inr (.inr (UInt8.lt_iff_toNat_lt.mpr h))
theorem u8_not {a b : UInt8} (h : a < b) : ¬ b < a := fun e => by
  rw [UInt8.lt_iff_toNat_lt] at *
  omega
theorem u8_ne {a b : UInt8} (h : a < b) : ¬ a = b := fun e => by
  rw [UInt8.lt_iff_toNat_lt] at *
  subst e
  omega

theorem u8_ne' {a b : UInt8} (h : a < b) : ¬ b = a := fun e => u8_ne h e.symm
theorem less_cons (a b : UInt8) (x y : List UInt8) : Op.bytesLess (a :: x) (b :: y) = (decide (a < b) || (a == b && Op.bytesLess x y)) := rfl
theorem less_nil (x : List UInt8) : Op.bytesLess x [] = false := by cases x <;> rfl
theorem nil_less (a : UInt8) (x : List UInt8) : Op.bytesLess [] (a :: x) = true := rfl

theorem cmp_cons_lt {a b : UInt8} (x y : List UInt8) (h : a < b) : compareBytes (a :: x) (b :: y) = -1 := by
  rw [compareBytes, if_pos h]
theorem cmp_cons_gt {a b : UInt8} (x y : List UInt8) (h : b < a) : compareBytes (a :: x) (b :: y) = 1 := by
  rw [compareBytes, if_neg (u8_not h), if_pos h]
theorem cmp_cons_eq (a : UInt8) (x y : List UInt8) : compareBytes (a :: x) (a :: y) = compareBytes x y := by
  rw [compareBytes, if_neg (UInt8.lt_irrefl _), if_neg (UInt8.lt_irrefl _)]

theorem cmp_self : ∀ a : List UInt8, compareBytes a a = 0
  | [] => rfl
  | c :: a => by rw [cmp_cons_eq]; exact cmp_self a

theorem cmp_app : ∀ p a b : List UInt8, compareBytes (p ++ a) (p ++ b) = compareBytes a b
  | [], _, _ => rfl
  | c :: p, a, b => by rw [List.cons_append, List.cons_append, cmp_cons_eq]; exact cmp_app p a b

theorem cmp_vals : ∀ a b : List UInt8, compareBytes a b = -1 ∨ compareBytes a b = 0 ∨ compareBytes a b = 1
  | [], [] => .inr (.inl rfl)
  | [], _ :: _ => .inl rfl
  | _ :: _, [] => .inr (.inr rfl)
  | c :: a, d :: b => by
    rcases u8_tri c d with h | rfl | h
    · exact .inl (cmp_cons_lt _ _ h)
    · rw [cmp_cons_eq]; exact cmp_vals a b
    · exact .inr (.inr (cmp_cons_gt _ _ h))

theorem cmp_zero : ∀ {a b : List UInt8}, compareBytes a b = 0 → a = b
  | [], [], _ => rfl
  | [], _ :: _, h => by cases h
  | _ :: _, [], h => by cases h
  | c :: a, d :: b, h => by
    rcases u8_tri c d with k | rfl | k
    · rw [cmp_cons_lt _ _ k] at h; cases h
    · rw [cmp_cons_eq] at h; rw [cmp_zero h]
    · rw [cmp_cons_gt _ _ k] at h; cases h

theorem cmp_swap : ∀ a b : List UInt8, compareBytes b a = - compareBytes a b
  | [], [] => rfl
  | [], _ :: _ => rfl
  | _ :: _, [] => rfl
  | c :: a, d :: b => by
    rcases u8_tri c d with k | rfl | k
    · rw [cmp_cons_lt _ _ k, cmp_cons_gt _ _ k]; rfl
    · rw [cmp_cons_eq, cmp_cons_eq]; exact cmp_swap a b
    · rw [cmp_cons_lt _ _ k, cmp_cons_gt _ _ k]

theorem less_iff : ∀ a b : List UInt8, Op.bytesLess a b = (compareBytes a b == -1)
  | [], [] => rfl
  | [], _ :: _ => rfl
  | _ :: _, [] => rfl
  | c :: a, d :: b => by
    rw [less_cons]
    rcases u8_tri c d with k | rfl | k
    · rw [cmp_cons_lt _ _ k]; simp [k]
    · rw [cmp_cons_eq, less_iff a b]; simp
    · rw [cmp_cons_gt _ _ k]; simp [u8_not k, u8_ne' k]

/-! numbers -/
theorem foldl_be (l : List UInt8) : ∀ n : Nat, l.foldl (fun n b => 256 * n + b.toNat) n = n * 256 ^ l.length + beN l := by
  induction l with
  | nil => intro n; simp [beN]
  | cons c l ih =>
    intro n
    have e : beN (c :: l) = c.toNat * 256 ^ l.length + beN l := by rw [beN, List.foldl_cons, ih]; simp
    rw [List.foldl_cons, ih, e, List.length_cons, Nat.pow_succ, Nat.add_mul, Nat.mul_comm 256 n, Nat.mul_assoc n 256, Nat.mul_comm 256]
    omega

theorem beN_cons (c : UInt8) (l : List UInt8) : beN (c :: l) = c.toNat * 256 ^ l.length + beN l := by
  rw [beN, List.foldl_cons, foldl_be]; simp

theorem cmp_len : ∀ (a b x y : List UInt8), a.length = b.length →
    compareBytes (a ++ x) (b ++ y) = if beN a < beN b then -1 else if beN b < beN a then 1 else compareBytes x y
  | [], [], x, y, _ => by simp [beN]
  | c :: a, d :: b, x, y, h => by
    have hl : a.length = b.length := by simpa using h
    have la := beN_lt a.length a rfl
    have lb := beN_lt b.length b rfl
    rw [List.cons_append, List.cons_append, beN_cons, beN_cons, hl]
    rw [hl] at la
    generalize 256 ^ b.length = P at *
    rcases u8_tri c d with k | rfl | k
    · rw [cmp_cons_lt _ _ k, if_pos]
      have : c.toNat + 1 ≤ d.toNat := UInt8.lt_iff_toNat_lt.mp k
      have := Nat.mul_le_mul_right P this
      rw [Nat.add_mul] at this
      omega
    · rw [cmp_cons_eq, cmp_len a b x y hl]
      simp
    · have : d.toNat + 1 ≤ c.toNat := UInt8.lt_iff_toNat_lt.mp k
      have := Nat.mul_le_mul_right P this
      rw [Nat.add_mul] at this
      rw [cmp_cons_gt _ _ k, if_neg (by omega), if_pos (by omega)]

theorem beN_inj {a b : List UInt8} (h : a.length = b.length) (e : beN a = beN b) : a = b := by
  have := cmp_len a b [] [] h
  rw [e, if_neg (Nat.lt_irrefl _), if_neg (Nat.lt_irrefl _), List.append_nil, List.append_nil] at this
  exact cmp_zero this

/-- A number's last digits of base 256, the highest first. -/
def digs : Nat → Nat → List UInt8
  | 0, _ => []
  | j + 1, n => UInt8.ofNat (n / 256 ^ j) :: digs j n
/-- A number in eight bytes, the highest first. -/
def be8 (n : Nat) : List UInt8 := digs 8 n

theorem be8_length (n : Nat) : (be8 n).length = 8 := rfl

theorem beN_be8 (n : Nat) (h : n < 18446744073709551616) : beN (be8 n) = n := by
  simp only [beN, be8, digs, List.foldl_cons, List.foldl_nil, UInt8.toNat_ofNat']
  omega

theorem be8_beN (l : List UInt8) (h : l.length = 8) : be8 (beN l) = l := by
  have := beN_lt 8 l h
  exact beN_inj (by rw [h]; rfl) (beN_be8 _ (by have : (256 : Nat) ^ 8 = 18446744073709551616 := by decide
                                                omega))

theorem cmp_be8 (m n : Nat) (x y : List UInt8) (hm : m < 18446744073709551616) (hn : n < 18446744073709551616) :
    compareBytes (be8 m ++ x) (be8 n ++ y) = if m < n then -1 else if n < m then 1 else compareBytes x y := by
  rw [cmp_len (be8 m) (be8 n) x y rfl, beN_be8 m hm, beN_be8 n hn]

/-! texts -/
/-- A text whose zeros are marked. -/
def esc : List UInt8 → List UInt8
  | [] => []
  | c :: l => if c = 0 then 0 :: 255 :: esc l else c :: esc l

theorem esc_zero (l : List UInt8) : esc (0 :: l) = 0 :: 255 :: esc l := by rw [esc, if_pos rfl]
theorem esc_ne {c : UInt8} (h : c ≠ 0) (l : List UInt8) : esc (c :: l) = c :: esc l := by rw [esc, if_neg h]

theorem txt_esc : ∀ (s acc x : List UInt8), txt acc (esc s ++ 0 :: 0 :: x) = (acc ++ s, x, true)
  | [], acc, x => by rw [esc, List.nil_append, txt_two, if_pos rfl, List.append_nil]
  | c :: s, acc, x => by
    by_cases h : c = 0
    · subst h
      rw [esc_zero, List.cons_append, List.cons_append, txt_two, if_neg (by decide), if_pos rfl, txt_esc s, List.append_assoc]
      rfl
    · rw [esc_ne h, List.cons_append, txt_ne h, txt_esc s, List.append_assoc]
      rfl

theorem txt_inv : ∀ (l acc t rest : List UInt8), txt acc l = (t, rest, true) → ∃ s, t = acc ++ s ∧ l = esc s ++ 0 :: 0 :: rest
  | [], acc, t, rest, h => by simp [txt] at h
  | [c], acc, t, rest, h => by
    by_cases hc : c = 0
    · subst hc; rw [txt_one] at h; simp at h
    · rw [txt_ne hc] at h; simp [txt] at h
  | c :: d :: l, acc, t, rest, h => by
    by_cases hc : c = 0
    · subst hc
      rw [txt_two] at h
      by_cases hd : d = 0
      · subst hd
        rw [if_pos rfl] at h
        simp only [Prod.mk.injEq, and_true] at h
        obtain ⟨rfl, rfl⟩ := h
        exact ⟨[], by simp, rfl⟩
      · rw [if_neg hd] at h
        by_cases he : d = 255
        · subst he
          rw [if_pos rfl] at h
          obtain ⟨s, rfl, rfl⟩ := txt_inv l _ t rest h
          exact ⟨0 :: s, by simp, by rw [esc_zero]; rfl⟩
        · rw [if_neg he] at h; simp at h
    · rw [txt_ne hc] at h
      obtain ⟨s, rfl, e⟩ := txt_inv (d :: l) _ t rest h
      exact ⟨c :: s, by simp, by rw [esc_ne hc, e]; rfl⟩
termination_by l => l.length

theorem esc_len : ∀ s : List UInt8, (esc s).length ≤ 2 * s.length ∧ s.length ≤ (esc s).length
  | [] => ⟨Nat.le_refl _, Nat.le_refl _⟩
  | c :: s => by
    have := esc_len s
    by_cases h : c = 0
    · subst h; rw [esc_zero]; simp only [List.length_cons]; omega
    · rw [esc_ne h]; simp only [List.length_cons]; omega

theorem u8_pos {d : UInt8} (h : d ≠ 0) : 0 < d := by
  rcases u8_tri 0 d with k | k | k
  · exact k
  · exact absurd k.symm h
  · rw [UInt8.lt_iff_toNat_lt] at k; simp at k

theorem cmp_esc : ∀ s t x y : List UInt8, compareBytes (esc s ++ 0 :: 0 :: x) (esc t ++ 0 :: 0 :: y) = if compareBytes s t = 0 then compareBytes x y else compareBytes s t
  | [], [], x, y => by simp [esc, cmp_cons_eq, compareBytes]
  | [], d :: t, x, y => by
    by_cases h : d = 0
    · subst h
      rw [esc_zero, esc, List.nil_append, List.cons_append, List.cons_append, cmp_cons_eq, cmp_cons_lt _ _ (by decide)]
      rfl
    · rw [esc_ne h, esc, List.nil_append, List.cons_append, cmp_cons_lt _ _ (u8_pos h)]
      rfl
  | c :: s, [], x, y => by
    by_cases h : c = 0
    · subst h
      rw [esc_zero, esc, List.nil_append, List.cons_append, List.cons_append, cmp_cons_eq, cmp_cons_gt _ _ (by decide)]
      rfl
    · rw [esc_ne h, esc, List.nil_append, List.cons_append, cmp_cons_gt _ _ (u8_pos h)]
      rfl
  | c :: s, d :: t, x, y => by
    by_cases e : c = d
    · subst e
      by_cases h : c = 0
      · subst h
        rw [esc_zero, esc_zero, List.cons_append, List.cons_append, List.cons_append, List.cons_append, cmp_cons_eq, cmp_cons_eq, cmp_cons_eq]
        exact cmp_esc s t x y
      · rw [esc_ne h, esc_ne h, List.cons_append, List.cons_append, cmp_cons_eq, cmp_cons_eq]
        exact cmp_esc s t x y
    · rcases u8_tri c d with k | k | k
      · rw [cmp_cons_lt s t k, if_neg (by decide)]
        by_cases h : c = 0
        · subst h
          rw [esc_zero, esc_ne (fun z => e z.symm), List.cons_append, List.cons_append, List.cons_append, cmp_cons_lt _ _ k]
        · have hd : d ≠ 0 := fun z => by subst z; exact absurd k (by rw [UInt8.lt_iff_toNat_lt]; simp)
          rw [esc_ne h, esc_ne hd, List.cons_append, List.cons_append, cmp_cons_lt _ _ k]
      · exact absurd k e
      · rw [cmp_cons_gt s t k, if_neg (by decide)]
        by_cases h : d = 0
        · subst h
          rw [esc_zero, esc_ne e, List.cons_append, List.cons_append, List.cons_append, cmp_cons_gt _ _ k]
        · have hc : c ≠ 0 := fun z => by subst z; exact absurd k (by rw [UInt8.lt_iff_toNat_lt]; simp)
          rw [esc_ne hc, esc_ne h, List.cons_append, List.cons_append, cmp_cons_gt _ _ k]

/-! what stands behind all that begin so -/
def aft : List UInt8 → Option (List UInt8)
  | [] => none
  | c :: l => match aft l with
    | some t => some (c :: t)
    | none => if c = 255 then none else some [c + 1]

theorem aft_snoc_255 : ∀ l : List UInt8, aft (l ++ [255]) = aft l
  | [] => rfl
  | c :: l => by rw [List.cons_append, aft, aft, aft_snoc_255 l]

theorem aft_snoc : ∀ (l : List UInt8) (c : UInt8), c ≠ 255 → aft (l ++ [c]) = some (l ++ [c + 1])
  | [], c, h => by rw [List.nil_append, aft, aft]; simp [h]
  | d :: l, c, h => by rw [List.cons_append, aft, aft_snoc l c h]; rfl

theorem aft_none : ∀ (s t : List UInt8), aft s = none → (s <+: t ↔ Op.bytesLess t s = false)
  | [], t, _ => by cases t <;> simp [Op.bytesLess]
  | c :: l, t, h => by
    rw [aft] at h
    cases hl : aft l with
    | some x => rw [hl] at h; cases h
    | none =>
      rw [hl] at h
      have hc : c = 255 := by
        by_cases e : c = 255
        · exact e
        · simp [e] at h
      subst hc
      cases t with
      | nil => simp [nil_less]
      | cons d u =>
        have ih := aft_none l u hl
        rw [List.cons_prefix_cons, ih]
        rw [less_cons]
        rcases u8_tri d 255 with k | rfl | k
        · simp [k, u8_ne' k]
        · simp
        · rw [UInt8.lt_iff_toNat_lt] at k
          have := d.toNat_lt
          simp at k
          omega

theorem aft_some : ∀ (s e t : List UInt8), aft s = some e → (s <+: t ↔ Op.bytesLess t s = false ∧ Op.bytesLess t e = true)
  | [], e, t, h => by cases h
  | c :: l, e, t, h => by
    rw [aft] at h
    cases hl : aft l with
    | some x =>
      rw [hl] at h
      obtain rfl := Option.some.inj h
      cases t with
      | nil => simp [nil_less]
      | cons d u =>
        have ih := aft_some l x u hl
        rw [List.cons_prefix_cons, ih]
        rw [less_cons, less_cons]
        rcases u8_tri d c with k | rfl | k
        · simp [k, u8_ne' k]
        · simp
        · simp [u8_not k, u8_ne k, u8_ne' k]
    | none =>
      rw [hl] at h
      have hc : c ≠ 255 := fun z => by simp [z] at h
      simp only [hc, if_false] at h
      obtain rfl := Option.some.inj h
      have hn : (c + 1).toNat = c.toNat + 1 := by
        have h1 := c.toNat_lt
        have h2 : c.toNat ≠ 255 := fun z => hc (UInt8.toNat_inj.mp (by rw [z]; rfl))
        rw [UInt8.toNat_add]
        simp
        omega
      cases t with
      | nil => simp [nil_less]
      | cons d u =>
        have ih := aft_none l u hl
        rw [List.cons_prefix_cons, ih]
        rw [less_cons, less_cons, less_nil]
        rcases u8_tri d c with k | rfl | k
        · simp [k, u8_ne' k]
        · have : d < d + 1 := by rw [UInt8.lt_iff_toNat_lt, hn]; omega
          simp [this]
        · have : ¬ d < c + 1 := by rw [UInt8.lt_iff_toNat_lt, hn]; rw [UInt8.lt_iff_toNat_lt] at k; omega
          simp [this, u8_ne k]

end Go.Proofs.YtpimfioeeipnhaaDoor.Pl
