/-
  The order of the numbers of 64 bits with a point is that of their rungs with a sign: plain laws, over the model's own reading of such a number. No condition.
-/
import Derived.Test.YtpimfioeeipnhaaDoorBytes
import Derived.Laws.BitsLemmas
namespace Go.Proofs.YtpimfioeeipnhaaDoor.Pl
open Go.Proofs.YtpimfioeeipnhaaDoor.Hand Go.Lib
set_option linter.unusedVariables false
set_option linter.unusedSimpArgs false

/-- What a rung stands for, in units of the least. -/
def val (r : Nat) : Nat := if r < 4503599627370496 then r else (4503599627370496 + r % 4503599627370496) * 2 ^ (r / 4503599627370496 - 1)

theorem val_mono {r t : Nat} (h : r < t) : val r < val t := by
  unfold val
  by_cases h1 : r < 4503599627370496
  · rw [if_pos h1]
    by_cases h2 : t < 4503599627370496
    · rw [if_pos h2]; exact h
    · rw [if_neg h2]
      have := Nat.le_mul_of_pos_right (4503599627370496 + t % 4503599627370496) (Nat.two_pow_pos (t / 4503599627370496 - 1))
      omega
  · rw [if_neg h1, if_neg (by omega)]
    by_cases hq : r / 4503599627370496 = t / 4503599627370496
    · rw [hq]
      exact Nat.mul_lt_mul_of_pos_right (by omega) (Nat.two_pow_pos _)
    · have hlt : r / 4503599627370496 < t / 4503599627370496 := by omega
      have e : (4503599627370496 + r % 4503599627370496) * 2 ^ (r / 4503599627370496 - 1) < 9007199254740992 * 2 ^ (r / 4503599627370496 - 1) := Nat.mul_lt_mul_of_pos_right (by omega) (Nat.two_pow_pos _)
      have f : 9007199254740992 * 2 ^ (r / 4503599627370496 - 1) = 4503599627370496 * 2 ^ (r / 4503599627370496) := by
        obtain ⟨q, hq⟩ : ∃ q, r / 4503599627370496 = q + 1 := ⟨r / 4503599627370496 - 1, by omega⟩
        rw [hq, Nat.add_sub_cancel, Nat.pow_succ]; omega
      have g : 4503599627370496 * 2 ^ (r / 4503599627370496) ≤ 4503599627370496 * 2 ^ (t / 4503599627370496 - 1) := Nat.mul_le_mul_left _ (Nat.pow_le_pow_right (by decide) (by omega))
      have k : 4503599627370496 * 2 ^ (t / 4503599627370496 - 1) ≤ (4503599627370496 + t % 4503599627370496) * 2 ^ (t / 4503599627370496 - 1) := Nat.mul_le_mul_right _ (by omega)
      omega

def sg (s : Bool) (n : Nat) : Int := if s then -(n : Int) else n

def cmpI (x y : Int) : Ordering := if x < y then .lt else if x = y then .eq else .gt
theorem compare_cmpI (x y : Int) : compare x y = cmpI x y := rfl

theorem cmpI_of {x y x' y' : Int} (h1 : x < y ↔ x' < y') (h2 : x = y ↔ x' = y') : cmpI x y = cmpI x' y' := by
  unfold cmpI
  by_cases a : x < y
  · rw [if_pos a, if_pos (h1.mp a)]
  · rw [if_neg a, if_neg (fun z => a (h1.mpr z))]
    by_cases b : x = y
    · rw [if_pos b, if_pos (h2.mp b)]
    · rw [if_neg b, if_neg (fun z => b (h2.mpr z))]

theorem cmpI_mul (x y : Int) (c : Nat) : cmpI x y = cmpI (x * 2 ^ c) (y * 2 ^ c) := by
  have hp : (0 : Int) < 2 ^ c := Int.pow_pos (by decide)
  refine cmpI_of ⟨fun h => Int.mul_lt_mul_of_pos_right h hp, fun h => Int.lt_of_mul_lt_mul_right h (Int.le_of_lt hp)⟩ ⟨fun h => by rw [h], fun h => Int.eq_of_mul_eq_mul_right (Int.ne_of_gt hp) h⟩

theorem cmpI_val (s t : Bool) (r u : Nat) : cmpI (sg s (val r)) (sg t (val u)) = cmpI (sg s r) (sg t u) := by
  have v0 : val 0 = 0 := rfl
  have hr : r = 0 ∨ 0 < val r := by rcases Nat.eq_zero_or_pos r with h | h; exact .inl h; have := val_mono h; exact .inr (by omega)
  have hu : u = 0 ∨ 0 < val u := by rcases Nat.eq_zero_or_pos u with h | h; exact .inl h; have := val_mono h; exact .inr (by omega)
  have tri : (r < u ∧ val r < val u) ∨ (r = u ∧ val r = val u) ∨ (u < r ∧ val u < val r) := by
    rcases Nat.lt_trichotomy r u with h | h | h
    · exact .inl ⟨h, val_mono h⟩
    · exact .inr (.inl ⟨h, by rw [h]⟩)
    · exact .inr (.inr ⟨h, val_mono h⟩)
  have z1 : r = 0 → val r = 0 := fun h => by rw [h, v0]
  have z2 : u = 0 → val u = 0 := fun h => by rw [h, v0]
  refine cmpI_of ?_ ?_ <;> cases s <;> cases t <;> simp only [sg, if_true, Bool.false_eq_true, if_false] <;> omega

theorem signed_mul (s : Bool) (m up c : Nat) : Ieee.signed s m up * 2 ^ c = sg s (m * 2 ^ (up + c)) := by
  unfold Ieee.signed sg
  have e : ((m <<< up : Nat) : Int) * 2 ^ c = ((m * 2 ^ (up + c) : Nat) : Int) := by
    rw [Nat.shiftLeft_eq, Nat.pow_add, ← Nat.mul_assoc]
    push_cast
    rfl
  cases s
  · exact e
  · simp only [if_true, Int.neg_mul, e]

/-- Reading a word below the infinities. -/
theorem read_num (a : Nat) (ha : a < 18446744073709551616) (h : a % 9223372036854775808 < 9218868437227405312) :
    ∃ m p, Ieee.double.read a = .number (decide (9223372036854775808 ≤ a)) m p ∧ -1074 ≤ p ∧ m * 2 ^ (p + 1074).toNat = val (a % 9223372036854775808) := by
  have hneg : (a / Ieee.double.signWeight % 2 == 1) = decide (9223372036854775808 ≤ a) := by
    show (a / 9223372036854775808 % 2 == 1) = _
    by_cases k : 9223372036854775808 ≤ a
    · have : a / 9223372036854775808 % 2 = 1 := by omega
      simp [this, k]
    · have : a / 9223372036854775808 % 2 = 0 := by omega
      simp [this, k]
  unfold Ieee.Format.read
  rw [hneg]
  show ∃ m p, (if a % 9223372036854775808 < 4503599627370496 then Ieee.Datum.number (decide (9223372036854775808 ≤ a)) (a % 9223372036854775808) (-1074)
      else if a % 9223372036854775808 < 9218868437227405312 then Ieee.Datum.number (decide (9223372036854775808 ≤ a)) (4503599627370496 + a % 9223372036854775808 % 4503599627370496) (-1074 + ((a % 9223372036854775808 / 4503599627370496 - 1 : Nat) : Int))
      else if a % 9223372036854775808 = 9218868437227405312 then Ieee.Datum.infinity (decide (9223372036854775808 ≤ a)) else Ieee.Datum.nan (decide (9223372036854775808 ≤ a)) (a % 9223372036854775808 - 9218868437227405312)) = _ ∧ _
  generalize a % 9223372036854775808 = r at *
  by_cases h1 : r < 4503599627370496
  · rw [if_pos h1]
    refine ⟨_, _, rfl, by omega, ?_⟩
    unfold val
    rw [if_pos h1]
    simp
  · rw [if_neg h1, if_pos h]
    refine ⟨_, _, rfl, by omega, ?_⟩
    unfold val
    rw [if_neg h1]
    congr 2
    omega

theorem read_inf (a : Nat) (ha : a < 18446744073709551616) (h : a % 9223372036854775808 = 9218868437227405312) :
    Ieee.double.read a = .infinity (decide (9223372036854775808 ≤ a)) := by
  have hneg : (a / Ieee.double.signWeight % 2 == 1) = decide (9223372036854775808 ≤ a) := by
    show (a / 9223372036854775808 % 2 == 1) = _
    by_cases k : 9223372036854775808 ≤ a
    · have : a / 9223372036854775808 % 2 = 1 := by omega
      simp [this, k]
    · have : a / 9223372036854775808 % 2 = 0 := by omega
      simp [this, k]
  unfold Ieee.Format.read
  rw [hneg]
  show (if a % 9223372036854775808 < 4503599627370496 then Ieee.Datum.number (decide (9223372036854775808 ≤ a)) (a % 9223372036854775808) (-1074)
      else if a % 9223372036854775808 < 9218868437227405312 then Ieee.Datum.number (decide (9223372036854775808 ≤ a)) (4503599627370496 + a % 9223372036854775808 % 4503599627370496) (-1074 + ((a % 9223372036854775808 / 4503599627370496 - 1 : Nat) : Int))
      else if a % 9223372036854775808 = 9218868437227405312 then Ieee.Datum.infinity (decide (9223372036854775808 ≤ a)) else Ieee.Datum.nan (decide (9223372036854775808 ≤ a)) (a % 9223372036854775808 - 9218868437227405312)) = _
  rw [h, if_neg (by decide), if_neg (by decide), if_pos rfl]

/-- A number's rung with its sign. -/
def sv (a : Nat) : Int := sg (decide (9223372036854775808 ≤ a)) (a % 9223372036854775808)

theorem order_sv (a b : Nat) (ha : a < 18446744073709551616) (hb : b < 18446744073709551616) (na : a % 9223372036854775808 ≤ 9218868437227405312) (nb : b % 9223372036854775808 ≤ 9218868437227405312) :
    Ieee.double.order a b = some (cmpI (sv a) (sv b)) := by
  unfold Ieee.Format.order
  have ma : a % 9223372036854775808 < 9223372036854775808 := Nat.mod_lt _ (by decide)
  have mb : b % 9223372036854775808 < 9223372036854775808 := Nat.mod_lt _ (by decide)
  by_cases ia : a % 9223372036854775808 = 9218868437227405312
  · by_cases ib : b % 9223372036854775808 = 9218868437227405312
    · rw [read_inf a ha ia, read_inf b hb ib]
      unfold Ieee.Datum.order sv
      rw [ia, ib]
      by_cases x : 9223372036854775808 ≤ a <;> by_cases y : 9223372036854775808 ≤ b <;> simp only [x, y, decide_true, decide_false] <;> rfl
    · obtain ⟨m, p, e, _, _⟩ := read_num b hb (by omega)
      rw [read_inf a ha ia, e]
      unfold Ieee.Datum.order sv
      rw [ia]
      unfold cmpI sg
      by_cases x : 9223372036854775808 ≤ a <;> by_cases y : 9223372036854775808 ≤ b <;> simp only [x, y, decide_true, decide_false, if_true, Bool.false_eq_true, if_false]
      · rw [if_pos (by omega)]
      · rw [if_pos (by omega)]
      · rw [if_neg (by omega), if_neg (by omega)]
      · rw [if_neg (by omega), if_neg (by omega)]
  · obtain ⟨m, p, e, hp, hv⟩ := read_num a ha (by omega)
    by_cases ib : b % 9223372036854775808 = 9218868437227405312
    · rw [read_inf b hb ib, e]
      unfold Ieee.Datum.order sv
      rw [ib]
      unfold cmpI sg
      by_cases x : 9223372036854775808 ≤ a <;> by_cases y : 9223372036854775808 ≤ b <;> simp only [x, y, decide_true, decide_false, if_true, Bool.false_eq_true, if_false]
      · rw [if_neg (by omega), if_neg (by omega)]
      · rw [if_pos (by omega)]
      · rw [if_neg (by omega), if_neg (by omega)]
      · rw [if_pos (by omega)]
    · obtain ⟨n, q, f, hq, hw⟩ := read_num b hb (by omega)
      rw [e, f]
      unfold Ieee.Datum.order
      simp only
      rw [compare_cmpI, cmpI_mul _ _ (min p q + 1074).toNat, signed_mul, signed_mul]
      rw [show (p - min p q).toNat + (min p q + 1074).toNat = (p + 1074).toNat from by omega, show (q - min p q).toNat + (min p q + 1074).toNat = (q + 1074).toNat from by omega, hv, hw, cmpI_val]
      rfl

/-! what the code asks of a number's bits -/
theorem u64_wrap_in (n : Int) (h0 : 0 ≤ n) (h1 : n < 18446744073709551616) : IntKind.u64.wrap n = n := u64_in n h0 h1

theorem andNot_sign (a : Nat) (ha : a < 18446744073709551616) : Go.bits .andNot .u64 (a : Int) 9223372036854775808 = ((a % 9223372036854775808 : Nat) : Int) := by
  have e1 : BitVec.ofInt 64 (a : Int) = BitVec.ofNat 64 a := BitVec.ofInt_natCast 64 a
  have e2 : ~~~ (BitVec.ofInt 64 9223372036854775808) = BitVec.ofNat 64 9223372036854775807 := by decide
  show IntKind.u64.wrap ((BitVec.ofInt 64 (a : Int) &&& ~~~ (BitVec.ofInt 64 9223372036854775808)).toNat : Int) = _
  rw [e1, e2, BitVec.toNat_and, BitVec.toNat_ofNat, BitVec.toNat_ofNat, Nat.mod_eq_of_lt (by omega : a < 2 ^ 64), Nat.mod_eq_of_lt (by decide : 9223372036854775807 < 2 ^ 64)]
  have e3 : a &&& 9223372036854775807 = a % 9223372036854775808 := by
    have := Nat.and_two_pow_sub_one_eq_mod a 63
    simpa using this
  rw [e3]
  have := Nat.mod_lt a (by decide : 0 < 9223372036854775808)
  exact u64_in _ (by omega) (by omega)

theorem and_sign (a : Nat) (ha : a < 18446744073709551616) : Go.bits .and .u64 (a : Int) 9223372036854775808 = if a < 9223372036854775808 then 0 else 9223372036854775808 := by
  have e1 : BitVec.ofInt 64 (a : Int) = BitVec.ofNat 64 a := BitVec.ofInt_natCast 64 a
  have e2 : BitVec.ofInt 64 9223372036854775808 = BitVec.ofNat 64 9223372036854775808 := by decide
  show IntKind.u64.wrap ((BitVec.ofInt 64 (a : Int) &&& (BitVec.ofInt 64 9223372036854775808)).toNat : Int) = _
  rw [e1, e2, BitVec.toNat_and, BitVec.toNat_ofNat, BitVec.toNat_ofNat, Nat.mod_eq_of_lt (by omega : a < 2 ^ 64), Nat.mod_eq_of_lt (by decide : 9223372036854775808 < 2 ^ 64)]
  have e3 : a &&& 9223372036854775808 = if a < 9223372036854775808 then 0 else 9223372036854775808 := by
    rw [show (9223372036854775808 : Nat) = 2 ^ 63 from by decide]
    apply Nat.eq_of_testBit_eq
    intro i
    rw [Nat.testBit_and, Nat.testBit_two_pow]
    by_cases hi : 63 = i
    · subst hi
      rw [Nat.testBit_eq_decide_div_mod_eq]
      by_cases h : a < 2 ^ 63
      · have : a / 2 ^ 63 % 2 = 0 := by omega
        rw [if_pos h, this]
        simp
      · have : a / 2 ^ 63 % 2 = 1 := by omega
        rw [if_neg h, this, Nat.testBit_two_pow]
        simp
    · by_cases h : a < 2 ^ 63
      · rw [if_pos h]; simp [hi]
      · rw [if_neg h, Nat.testBit_two_pow]; simp [hi]
  rw [e3]
  by_cases h : a < 9223372036854775808
  · rw [if_pos h, if_pos (by omega)]; rfl
  · rw [if_neg h, if_neg (by omega)]; rfl

theorem or_sign (y : Int) (h0 : 0 ≤ y) (h1 : y < 9223372036854775808) : Go.bits .or .u64 9223372036854775808 y = 9223372036854775808 + y :=
  bits_join .u64 64 (by decide) (fun n h0 h1 => u64_in n h0 (by simpa using h1)) 63 _ _ (by decide) (by decide) (by decide) h0 (by simpa using h1) (by omega)

end Go.Proofs.YtpimfioeeipnhaaDoor.Pl
