/-
  The log's bytes: numbers, a record's sectors, what stands in an area. Plain lists. No condition.
-/
import Derived.Test.YtjkhcfdflcndkaaPL
namespace Go.Proofs.Ytjkhcfdflcndkaa.D
set_option linter.unusedVariables false
set_option linter.unusedSimpArgs false

/-- The last k bytes of a number, the highest first. -/
def be : Nat → Nat → List UInt8
  | 0, _ => []
  | k + 1, n => be k (n / 256) ++ [UInt8.ofNat n]
def val (l : List UInt8) : Nat := l.foldl (fun n b => n * 256 + b.toNat) 0

theorem be_length : ∀ (k n : Nat), (be k n).length = k
  | 0, _ => rfl
  | k + 1, n => by simp [be, be_length k]
theorem val_snoc (l : List UInt8) (b : UInt8) : val (l ++ [b]) = val l * 256 + b.toNat := by simp [val]
theorem val_be : ∀ (k n : Nat), val (be k n) = n % 256 ^ k
  | 0, n => by simp [be, val, Nat.mod_one]
  | k + 1, n => by
    have e : (UInt8.ofNat n).toNat = n % 256 := by rw [UInt8.toNat_ofNat']
    have e2 : n % 256 ^ (k + 1) = n % 256 + 256 * (n / 256 % 256 ^ k) := by rw [Nat.pow_succ, Nat.mul_comm (256 ^ k) 256, Nat.mod_mul]
    rw [be, val_snoc, val_be k, e, e2]
    omega
theorem val_lt_rev : ∀ (l : List UInt8), val l.reverse < 256 ^ l.length
  | [] => by simp [val]
  | b :: l => by
    have ih := val_lt_rev l
    have hb := b.toNat_lt
    rw [List.reverse_cons, val_snoc, List.length_cons, Nat.pow_succ]
    omega
theorem val_lt (l : List UInt8) : val l < 256 ^ l.length := by
  have := val_lt_rev l.reverse
  rwa [List.reverse_reverse, List.length_reverse] at this
theorem be_inj {k n m : Nat} (hn : n < 256 ^ k) (hm : m < 256 ^ k) (h : be k n = be k m) : n = m := by
  have := congrArg val h
  rwa [val_be, val_be, Nat.mod_eq_of_lt hn, Nat.mod_eq_of_lt hm] at this
/-- From the highest on. -/
theorem be_head : ∀ (k n : Nat), be (k + 1) n = UInt8.ofNat (n / 256 ^ k) :: be k n
  | 0, n => by simp [be]
  | k + 1, n => by
    rw [be, be_head k, be]
    simp only [List.cons_append, List.cons.injEq, and_true]
    rw [Nat.div_div_eq_div_mul, Nat.pow_succ, Nat.mul_comm]

/-- How many sectors a record has. -/
def many (n : Nat) : Nat := max 1 ((n + 47) / 48)
/-- The i-th of a record's pieces. -/
def part (r : List UInt8) (i : Nat) : List UInt8 := (r.drop (48 * i)).take 48
def hdr (n i m p : Nat) : List UInt8 := be 8 n ++ be 2 i ++ be 2 m ++ be 2 p ++ [82, 87]
def one (n m : Nat) (r : List UInt8) (i : Nat) : List UInt8 := hdr n i m (part r i).length ++ part r i ++ List.replicate (48 - (part r i).length) 0
/-- A record's sectors. -/
def secsOf (n : Nat) (r : List UInt8) : List UInt8 := (List.range (many r.length)).flatMap (one n (many r.length) r)

theorem part_len (r : List UInt8) (i : Nat) : (part r i).length = min 48 (r.length - 48 * i) := by simp [part]
theorem hdr_len (n i m p : Nat) : (hdr n i m p).length = 16 := by simp [hdr, be_length]
theorem one_len (n m : Nat) (r : List UInt8) (i : Nat) : (one n m r i).length = 64 := by
  simp only [one, List.length_append, hdr_len, List.length_replicate]
  have := part_len r i
  omega
theorem flat_len (f : Nat → List UInt8) (c : Nat) (h : ∀ i, (f i).length = c) : ∀ m, ((List.range m).flatMap f).length = c * m
  | 0 => by simp
  | m + 1 => by simp [List.range_succ, flat_len f c h m, h, Nat.mul_succ]
theorem secsOf_len (n : Nat) (r : List UInt8) : (secsOf n r).length = 64 * many r.length := flat_len _ 64 (one_len n _ r) _
theorem flat_piece (f : Nat → List UInt8) (h : ∀ i, (f i).length = 64) : ∀ m i, i < m → piece ((List.range m).flatMap f) i = f i
  | 0, i, hi => by omega
  | m + 1, i, hi => by
    simp only [List.range_succ, List.flatMap_append, List.flatMap_cons, List.flatMap_nil, List.append_nil, piece]
    have hl := flat_len f 64 h m
    by_cases e : i = m
    · subst e
      rw [List.drop_append_of_le_length (by omega), List.drop_of_length_le (by omega), List.nil_append, List.take_of_length_le (by rw [h]; omega)]
    · have ih := flat_piece f h m i (by omega)
      rw [List.drop_append_of_le_length (by omega), List.take_append_of_le_length (by rw [List.length_drop]; omega)]
      exact ih
theorem secsOf_piece (n : Nat) (r : List UInt8) (i : Nat) (hi : i < many r.length) : piece (secsOf n r) i = one n (many r.length) r i := flat_piece _ (one_len n _ r) _ i hi

theorem cat_parts (r : List UInt8) : (List.range (many r.length)).flatMap (part r) = r := by
  have h : ∀ k, (List.range k).flatMap (part r) = r.take (48 * k) := by
    intro k
    induction k with
    | zero => simp
    | succ k ih => rw [List.range_succ, List.flatMap_append, ih]; simp [part, Nat.mul_succ, List.take_add]
  rw [h, List.take_of_length_le (by unfold many; omega)]

/-- The fields of a sector. -/
theorem one_no (n m : Nat) (r : List UInt8) (i : Nat) : (one n m r i).take 8 = be 8 n := by
  simp [one, hdr, be_length, List.append_assoc, List.take_append_of_le_length]
theorem one_many (n m : Nat) (r : List UInt8) (i : Nat) : ((one n m r i).drop 10).take 2 = be 2 m := by
  have h : one n m r i = (be 8 n ++ be 2 i) ++ (be 2 m ++ (be 2 (part r i).length ++ [82, 87] ++ part r i ++ List.replicate (48 - (part r i).length) 0)) := by simp [one, hdr]
  rw [h, List.drop_append_of_le_length (by simp [be_length]), List.drop_of_length_le (by simp [be_length]), List.nil_append, List.take_append_of_le_length (by simp [be_length]), List.take_of_length_le (by simp [be_length])]
theorem one_long (n m : Nat) (r : List UInt8) (i : Nat) : ((one n m r i).drop 12).take 2 = be 2 (part r i).length := by
  have h : one n m r i = (be 8 n ++ be 2 i ++ be 2 m) ++ (be 2 (part r i).length ++ ([82, 87] ++ part r i ++ List.replicate (48 - (part r i).length) 0)) := by simp [one, hdr]
  rw [h, List.drop_append_of_le_length (by simp [be_length]), List.drop_of_length_le (by simp [be_length]), List.nil_append, List.take_append_of_le_length (by simp [be_length]), List.take_of_length_le (by simp [be_length])]
theorem one_mark (n m : Nat) (r : List UInt8) (i : Nat) : ((one n m r i).drop 14).take 2 = [82, 87] := by
  have h : one n m r i = (be 8 n ++ be 2 i ++ be 2 m ++ be 2 (part r i).length) ++ ([82, 87] ++ (part r i ++ List.replicate (48 - (part r i).length) 0)) := by simp [one, hdr]
  rw [h, List.drop_append_of_le_length (by simp [be_length]), List.drop_of_length_le (by simp [be_length]), List.nil_append, List.take_append_of_le_length (by simp)]
  rfl
theorem one_part (n m : Nat) (r : List UInt8) (i : Nat) : ((one n m r i).drop 16).take (part r i).length = part r i := by
  have h : one n m r i = hdr n i m (part r i).length ++ (part r i ++ List.replicate (48 - (part r i).length) 0) := by simp [one]
  rw [h, List.drop_append_of_le_length (by simp [hdr_len]), List.drop_of_length_le (by simp [hdr_len]), List.nil_append, List.take_append_of_le_length (by simp), List.take_length]

/-- What a record's bytes are, of its sectors. -/
def body (a : List UInt8) (i : Nat) : List UInt8 := ((piece a i).drop 16).take (min 48 (val (((piece a i).drop 12).take 2)))
theorem body_of (n : Nat) (r : List UInt8) (i : Nat) (hi : i < many r.length) (a : List UInt8) (ha : piece a i = one n (many r.length) r i) : body a i = part r i := by
  unfold body
  rw [ha, one_long, val_be]
  have := part_len r i
  rw [Nat.mod_eq_of_lt (by omega), Nat.min_eq_right (by omega), one_part]

/-- Which record stands ahead, with this number. -/
def ahead (a : List UInt8) (n : Nat) : Option (List UInt8) :=
  if a.length < 64 ∨ (a.drop 14).take 2 ≠ [82, 87] then none
  else
    let k := val ((a.drop 10).take 2)
    if a.length < 64 * k then none
    else
      let r := (List.range k).flatMap (body a)
      if r.length ≤ 16384 ∧ 0 < k ∧ secsOf n r = a.take (64 * many r.length) then some r else none

end Go.Proofs.Ytjkhcfdflcndkaa.D
