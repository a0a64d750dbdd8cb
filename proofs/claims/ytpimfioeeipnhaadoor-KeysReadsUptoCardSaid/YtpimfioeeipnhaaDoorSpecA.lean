/-
  What keys.Check and keys.Encode come to, as plain functions of lists; parts that a Go value can hold. No condition beyond those on the fields' ranges.
-/
import Derived.Test.YtpimfioeeipnhaaDoorKx7
import Derived.Test.YtpimfioeeipnhaaDoorFloat
namespace Go.Proofs.YtpimfioeeipnhaaDoor.Pl
open Go.Proofs.YtpimfioeeipnhaaDoor.Hand Go.Proofs.YtpimfioeeipnhaaDoor.K Go.Lib Go.RowKit Go.Proofs.YtpimfioeeipnhaaDoorW.PrintWords Go.Proofs.YtpimfioeeipnhaaDoorW.PrintMore
set_option linter.unusedVariables false
set_option linter.unusedSimpArgs false

abbrev Part := Go.Proofs.YtpimfioeeipnhaaDoor.K.S34

/-- The ranges that a Go value's fields keep to. -/
structure WF (p : Part) : Prop where
  a0 : -9223372036854775808 ≤ p.f0
  b0 : p.f0 ≤ 9223372036854775807
  a1 : -9223372036854775808 ≤ p.f1
  b1 : p.f1 ≤ 9223372036854775807
  a2 : 0 ≤ p.f2
  b2 : p.f2 < 18446744073709551616

def tx (p : Part) : List UInt8 := p.f3.data.toList
theorem tx_length (p : Part) : (tx p).length = p.f3.size := (Lib.size_eq p.f3).symm

/-- May a part be a key's? -/
def okP (p : Part) : Bool :=
  if p.f0 = 0 then p.f2 == 0 && (tx p).isEmpty
  else if p.f0 = 1 then p.f1 == 0 && (tx p).isEmpty && p.f2 != 9223372036854775808 && decide (p.f2 % 9223372036854775808 ≤ 9218868437227405312)
  else if p.f0 = 2 then p.f1 == 0 && p.f2 == 0 && decide (p.f3.size ≤ 255)
  else false

theorem toList_tx (p : Part) : p.f3.toList = tx p := Lib.toList_data p.f3
theorem beq_nil (l : List UInt8) : (l == ([] : List UInt8)) = l.isEmpty := by cases l <;> rfl

theorem kind_of (a : Int) (h0 : 0 ≤ a) (h1 : a < 18446744073709551616) : ∃ k, floats_Kind.f a = some k ∧ (k = 4 ↔ 9218868437227405312 < a % 9223372036854775808) := by
  obtain ⟨n, rfl⟩ := Int.eq_ofNat_of_zero_le h0
  unfold floats_Kind.f
  rw [andNot_sign n (by omega)]
  generalize hm : n % 9223372036854775808 = m
  have hm' : (n : Int) % 9223372036854775808 = m := by omega
  rw [hm']
  by_cases c1 : (m : Int) = 0
  · exact ⟨0, by rw [if_pos c1], by omega⟩
  by_cases c2 : (m : Int) < 4503599627370496
  · exact ⟨1, by rw [if_neg c1, if_pos c2], by omega⟩
  by_cases c3 : (m : Int) < 9218868437227405312
  · exact ⟨2, by rw [if_neg c1, if_neg c2, if_pos c3], by omega⟩
  by_cases c4 : (m : Int) = 9218868437227405312
  · exact ⟨3, by rw [if_neg c1, if_neg c2, if_neg c3, if_pos c4], by omega⟩
  · exact ⟨4, by rw [if_neg c1, if_neg c2, if_neg c3, if_neg c4], by omega⟩

theorem one_ok (p : Part) (w : WF p) : keys_one.f p.f0 p.f1 p.f2 p.f3 = some (okP p) := by
  obtain ⟨k, hk, h4⟩ := kind_of p.f2 w.a2 w.b2
  unfold keys_one.f okP
  rw [toList_tx, beq_nil, hk]
  by_cases c0 : p.f0 = 0
  · rw [if_pos c0, if_pos c0, c0]; simp
  rw [if_neg c0, if_neg c0]
  by_cases c1 : p.f0 = 1
  · rw [if_pos c1, if_pos c1, c1]
    by_cases z : (p.f1 == 0 && (tx p).isEmpty) = true
    · rw [if_pos (by simpa using z), z]
      by_cases s : p.f2 = 9223372036854775808
      · rw [if_pos s, s]; simp
      · rw [if_neg s, Option.bind_some]
        by_cases e : k = 4
        · have := h4.mp e
          subst e
          simp [s]; omega
        · have : ¬ 9218868437227405312 < p.f2 % 9223372036854775808 := fun z => e (h4.mpr z)
          have f : p.f2 % 9223372036854775808 ≤ 9218868437227405312 := by omega
          have e1 : (k != 4) = true := bne_iff_ne.mpr e
          have e2 : (p.f2 != 9223372036854775808) = true := bne_iff_ne.mpr s
          rw [e1, e2, decide_eq_true f]; rfl
    · rw [if_neg (by simpa using z)]
      have z' := Bool.eq_false_iff.mpr z
      rw [z']; rfl
  rw [if_neg c1, if_neg c1]
  by_cases c2 : p.f0 = 2
  · rw [if_pos c2, if_pos c2, c2]
    by_cases z : (p.f1 == 0 && p.f2 == 0) = true
    · rw [if_pos (by simpa using z), z]; simp; omega
    · rw [if_neg (by simpa using z)]
      have z' := Bool.eq_false_iff.mpr z
      rw [z']; rfl
  · rw [if_neg c2, if_neg c2]

theorem rd_nat (l : List Part) (i : Nat) (h : i < l.length) : rd_T34 l (i : Int) = l[i] := by
  unfold rd_T34
  rw [Int.toNat_natCast, List.getD_eq_getElem?_getD, List.getElem?_eq_getElem h]; rfl

theorem wrap_succ (i : Nat) (h : i < 4611686018427387904) : wrap64 ((i : Int) + 1) = ((i + 1 : Nat) : Int) := by
  unfold wrap64; omega

def chk (l : List Part) : Int := if 16 < l.length then 30 else if l.all okP then 0 else 30

theorem check_loop (l : List Part) (w : ∀ p ∈ l, WF p) (hl : l.length ≤ 16) : ∀ (d i : Nat), i + d = l.length →
    Ev (fun k => keys_Check.l0 k l (l.length : Int) (i : Int)) (if (l.drop i).all okP then 0 else 30)
  | 0, i, h => by
    have : l.drop i = [] := by rw [List.drop_eq_nil_iff]; omega
    rw [this]
    exact Ev.step (f := fun _ => some 0) (fun k => by simp only [keys_Check.l0]; rw [if_neg (by omega)]) (Ev.now _)
  | d + 1, i, h => by
    have hi : i < l.length := by omega
    have e : l.drop i = l[i] :: l.drop (i + 1) := List.drop_eq_getElem_cons hi
    have wi := w _ (List.getElem_mem hi)
    have ih := check_loop l w hl d (i + 1) (by omega)
    rw [e, List.all_cons]
    refine Ev.step (f := fun k => if okP l[i] = true then keys_Check.l0 k l (l.length : Int) ((i + 1 : Nat) : Int) else some 30) (fun k => ?_) ?_
    · simp only [keys_Check.l0]
      rw [if_pos (by omega), if_pos (by omega), if_pos (by omega), rd_nat l i hi, one_ok _ wi, Option.bind_some, wrap_succ i (by omega)]
    · by_cases c : okP l[i] = true
      · simp only [c, if_true, Bool.true_and]; exact ih
      · have c' := Bool.eq_false_iff.mpr c
        simp only [c', Bool.false_and, if_false, Bool.false_eq_true]; exact Ev.now _

theorem check_ev (l : List Part) (w : ∀ p ∈ l, WF p) : Ev (fun k => keys_Check.f k l) (chk l) := by
  unfold keys_Check.f chk
  by_cases h : 16 < l.length
  · rw [if_pos h]; simp only [show ((l.length : Int) > 16) from by omega, if_true]; exact Ev.now _
  · rw [if_neg h]; simp only [show ¬ ((l.length : Int) > 16) from by omega, if_false]
    have := check_loop l w (by omega) l.length 0 (by omega)
    simpa using this

/-! numbers as bytes -/
def nums (l : List UInt8) : List Int := l.map fun b => (b.toNat : Int)
theorem nums_append (a b : List UInt8) : nums (a ++ b) = nums a ++ nums b := by simp [nums]
theorem nums_length (a : List UInt8) : (nums a).length = a.length := by simp [nums]
theorem strOf_nums (l : List UInt8) : strOfNums (nums l) = ⟨l.toArray⟩ := by
  unfold strOfNums nums
  rw [List.map_map]
  congr 2
  conv => rhs; rw [← List.map_id l]
  refine List.map_congr_left fun b _ => ?_
  simp

theorem bytesOf_nums (s : ByteArray) : bytesOf s = nums s.data.toList := rfl
theorem byte_num (n : Nat) : ((UInt8.ofNat n).toNat : Int) = ((n % 256 : Nat) : Int) := by rw [UInt8.toNat_ofNat']

theorem shr_digit (n j : Nat) (hj : j ≤ 7) : (shr .u64 (n : Int) ((8 * j : Nat) : Int)) % 256 = ((UInt8.ofNat (n / 256 ^ j)).toNat : Int) := by
  rw [byte_num]
  unfold shr
  rw [Int.toNat_natCast, Nat.min_eq_left (by show 8 * j ≤ 64; omega)]
  have : (2 : Int) ^ (8 * j) = ((256 ^ j : Nat) : Int) := by
    rw [Int.pow_mul, Int.natCast_pow]; rfl
  rw [this, ← Int.natCast_ediv]
  generalize n / 256 ^ j = q
  omega

theorem big_ev (n : Nat) : ∀ (j : Nat) (acc : List UInt8), j ≤ 8 → acc.length + j < 140737488355328 →
    Ev (fun k => keys_big.l0 k (nums acc) (n : Int) ((j : Int) - 1)) (nums (acc ++ digs j n))
  | 0, acc, _, _ => by
    rw [digs, List.append_nil]
    exact Ev.step (f := fun _ => some (nums acc)) (fun k => by simp only [keys_big.l0]; rw [if_neg (by omega)]) (Ev.now _)
  | j + 1, acc, hj, hl => by
    have ih := big_ev n j (acc ++ [UInt8.ofNat (n / 256 ^ j)]) (by omega) (by rw [List.length_append, List.length_singleton]; omega)
    rw [digs, ← List.singleton_append, ← List.append_assoc]
    refine Ev.step (f := fun k => keys_big.l0 k (nums (acc ++ [UInt8.ofNat (n / 256 ^ j)])) (n : Int) ((j : Int) - 1)) (fun k => ?_) ih
    simp only [keys_big.l0]
    have e1 : (((j + 1 : Nat) : Int) - 1) = (j : Int) := by omega
    have e2 : wrap64 (8 * (j : Int)) = ((8 * j : Nat) : Int) := by unfold wrap64; omega
    have e3 : wrap64 ((j : Int) - 1) = (j : Int) - 1 := by unfold wrap64; omega
    rw [e1, if_pos (by omega), e2, if_pos (by omega), if_pos (by rw [nums_length]; omega), e3, shr_digit n j (by omega), nums_append]
    rfl

theorem big_f (n : Nat) (acc : List UInt8) (h : acc.length < 140737488355320) : Ev (fun k => keys_big.f k (nums acc) (n : Int)) (nums (acc ++ be8 n)) := by
  have := big_ev n 8 acc (by omega) (by omega)
  exact this

/-- A number's place among all numbers. -/
def keyN (a : Int) : Nat := if a < 9223372036854775808 then (9223372036854775808 + a).toNat else (9223372036854775808 - (a - 9223372036854775808)).toNat

theorem keyN_lt (a : Int) (h0 : 0 ≤ a) : keyN a < 18446744073709551616 := by
  unfold keyN; split <;> omega

theorem key_f (a : Int) (h0 : 0 ≤ a) (h1 : a < 18446744073709551616) (hn : a % 9223372036854775808 ≤ 9218868437227405312) : floats_Key.f a = some ((keyN a : Int), 0) := by
  obtain ⟨n, rfl⟩ := Int.eq_ofNat_of_zero_le h0
  unfold floats_Key.f keyN
  rw [andNot_sign n (by omega), and_sign n (by omega), if_neg (by omega)]
  by_cases c : n < 9223372036854775808
  · rw [if_pos c, if_pos rfl, if_pos (by omega), u64_in _ (by omega) (by omega)]
    congr 2
    omega
  · rw [if_neg c, if_neg (by decide), if_neg (by omega), u64_in _ (by omega) (by omega)]
    congr 2
    omega

/-- A part's bytes. -/
def partB (p : Part) : List UInt8 :=
  if p.f0 = 0 then 1 :: be8 (p.f1 + 9223372036854775808).toNat
  else if p.f0 = 1 then 2 :: be8 (keyN p.f2)
  else 3 :: (esc (tx p) ++ [0, 0])

def enc (l : List Part) : List UInt8 := l.flatMap partB

theorem ok_kind {p : Part} (h : okP p = true) : p.f0 = 0 ∨ p.f0 = 1 ∨ p.f0 = 2 := by
  unfold okP at h
  by_cases c0 : p.f0 = 0
  · exact .inl c0
  by_cases c1 : p.f0 = 1
  · exact .inr (.inl c1)
  by_cases c2 : p.f0 = 2
  · exact .inr (.inr c2)
  · rw [if_neg c0, if_neg c1, if_neg c2] at h; cases h

theorem ok_num {p : Part} (h : okP p = true) (c1 : p.f0 = 1) : p.f1 = 0 ∧ tx p = [] ∧ p.f2 ≠ 9223372036854775808 ∧ p.f2 % 9223372036854775808 ≤ 9218868437227405312 := by
  unfold okP at h
  rw [if_neg (by omega), if_pos c1] at h
  simp at h
  exact ⟨h.1.1.1, h.1.1.2, h.1.2, h.2⟩

theorem ok_text {p : Part} (h : okP p = true) (c2 : p.f0 = 2) : p.f1 = 0 ∧ p.f2 = 0 ∧ p.f3.size ≤ 255 := by
  unfold okP at h
  rw [if_neg (by omega), if_neg (by omega), if_pos c2] at h
  simp at h
  exact ⟨h.1.1, h.1.2, h.2⟩

theorem ok_int {p : Part} (h : okP p = true) (c0 : p.f0 = 0) : p.f2 = 0 ∧ tx p = [] := by
  unfold okP at h
  rw [if_pos c0] at h
  simp at h
  exact h

theorem partB_len {p : Part} (h : okP p = true) : (partB p).length ≤ 513 ∧ 1 ≤ (partB p).length := by
  unfold partB
  rcases ok_kind h with c | c | c
  · rw [if_pos c]; simp [be8, digs]
  · rw [if_neg (by omega), if_pos c]; simp [be8, digs]
  · rw [if_neg (by omega), if_neg (by omega)]
    have := (esc_len (tx p)).1
    have := (ok_text h c).2.2
    have := tx_length p
    simp only [List.length_cons, List.length_append, List.length_nil]
    omega

/-! ReplaceAll of each 0 by 0, 255 -/
theorem index_none : ∀ l : List UInt8, Lib.indexByte l 0 = -1 → ¬ 0 ∈ l
  | [], _ => by simp
  | b :: l, hm => by
    rw [Lib.indexByte] at hm
    by_cases hb : b = 0
    · rw [if_pos (by simp [hb])] at hm; cases hm
    · rw [if_neg (by simp [hb])] at hm
      have := Lib.indexByte_ge l 0
      by_cases e : Lib.indexByte l 0 = -1
      · have ih := index_none l e
        intro hz
        rcases List.mem_cons.mp hz with h | h
        · exact hb h.symm
        · exact ih h
      · rw [if_neg (by simp [e])] at hm; omega

theorem replace_esc : ∀ (s : List UInt8), Lib.replaceK [0] [0, 255] (s.count 0) s = esc s
  | [] => rfl
  | c :: l => by
    have ih := replace_esc l
    by_cases h : c = 0
    · subst h
      rw [esc_zero, List.count_cons_self, Lib.replaceK_hit [0] [0, 255] (l.count 0) (0 :: l) 0 (by rw [Lib.index_one]; rfl)]
      simp [ih]
    · rw [esc_ne h, List.count_cons_of_ne (by simpa using h), ← ih]
      cases hk : l.count 0 with
      | zero => rfl
      | succ k =>
        have hi : ∃ i : Nat, Lib.indexByte l 0 = (i : Int) := by
          by_cases hm : Lib.indexByte l 0 = -1
          · have h0 : 0 ∈ l := List.count_pos_iff.mp (by omega)
            exact absurd h0 (index_none l hm)
          · have := Lib.indexByte_ge l 0
            exact ⟨(Lib.indexByte l 0).toNat, by omega⟩
        obtain ⟨i, hi⟩ := hi
        have hc : Lib.index (c :: l) [0] = ((i + 1 : Nat) : Int) := by
          rw [Lib.index_one, Lib.indexByte, if_neg (by simp [h]), hi, if_neg (by first | (simp; done) | (simp; omega))]
          omega
        rw [Lib.replaceK_hit [0] [0, 255] k (c :: l) (i + 1) hc, Lib.replaceK_hit [0] [0, 255] k l i (by rw [Lib.index_one, hi])]
        simp [List.take_succ_cons]

theorem replaceAll_f (t : ByteArray) (h : t.size ≤ 255) : strings_ReplaceAll.f t ⟨#[0]⟩ ⟨#[0, 255]⟩ = some ⟨(esc t.data.toList).toArray⟩ := by
  unfold strings_ReplaceAll.f
  have hc : Lib.countB t ⟨#[0]⟩ = t.data.toList.count 0 := Lib.count_one 0 _
  have hl : t.data.toList.count 0 ≤ t.size := by rw [Lib.size_eq]; exact List.count_le_length
  rw [if_pos (show (⟨#[0]⟩ : ByteArray).size = 1 from rfl), hc, if_pos (by show _ + _ * 2 ≤ _; omega)]
  congr 3
  show Lib.replaceAll t.data.toList [0] [0, 255] = _
  unfold Lib.replaceAll Lib.replace
  rw [if_neg (by decide)]
  have : Lib.replaceNum t.data.toList [0] (-1) = t.data.toList.count 0 := by
    unfold Lib.replaceNum
    rw [if_pos (by omega), Lib.count_one]
  rw [this]
  exact replace_esc _

theorem data_app (a : List UInt8) : (⟨a.toArray⟩ : ByteArray).data.toList = a := rfl

theorem w_one : wrap64 (0 + 1) % 256 = 1 := by unfold wrap64; omega
theorem w_two : wrap64 (1 + 1) % 256 = 2 := by unfold wrap64; omega
theorem w_three : wrap64 (2 + 1) % 256 = 3 := by unfold wrap64; omega

theorem encode_loop (l : List Part) (w : ∀ p ∈ l, WF p) (hl : l.length ≤ 16) (ho : ∀ p ∈ l, okP p = true) : ∀ (d i : Nat) (acc : List UInt8), i + d = l.length → acc.length ≤ 600 * i →
    Ev (fun k => keys_Encode.l0 k (nums acc) l (l.length : Int) (i : Int)) (⟨(acc ++ enc (l.drop i)).toArray⟩, 0)
  | 0, i, acc, h, ha => by
    have : l.drop i = [] := by rw [List.drop_eq_nil_iff]; omega
    rw [this]
    exact Ev.step (f := fun _ => some (strOfNums (nums acc), 0)) (fun k => by simp only [keys_Encode.l0]; rw [if_neg (by omega)]) (by rw [strOf_nums]; simpa [enc] using Ev.now _)
  | d + 1, i, acc, h, ha => by
    have hi : i < l.length := by omega
    have e : l.drop i = l[i] :: l.drop (i + 1) := List.drop_eq_getElem_cons hi
    have wi := w _ (List.getElem_mem hi)
    have oi := ho _ (List.getElem_mem hi)
    have pl := partB_len oi
    have ih := encode_loop l w hl ho d (i + 1) (acc ++ partB l[i]) (by omega) (by rw [List.length_append]; omega)
    have eN : enc (l.drop i) = partB l[i] ++ enc (l.drop (i + 1)) := by rw [e]; rfl
    rw [eN, ← List.append_assoc]
    have hr := rd_nat l i hi
    have hw := wrap_succ i (by omega)
    rcases ok_kind oi with c | c | c
    · have hb : partB l[i] = 1 :: be8 (l[i].f1 + 9223372036854775808).toNat := by unfold partB; rw [if_pos c]
      have hn : IntKind.u64.wrap (9223372036854775808 + IntKind.u64.wrap l[i].f1) = (((l[i].f1 + 9223372036854775808).toNat : Nat) : Int) := by
        have := wi.a1
        have := wi.b1
        have e (n : Int) : IntKind.u64.wrap n = n % 18446744073709551616 := by simp [IntKind.wrap, IntKind.bits, IntKind.signed]
        rw [e, e]
        omega
      refine Ev.step (f := fun k => (keys_big.f k (nums (acc ++ [1])) (((l[i].f1 + 9223372036854775808).toNat : Nat) : Int)).bind fun t => keys_Encode.l0 k t l (l.length : Int) ((i + 1 : Nat) : Int)) (fun k => ?_) (Ev.bind (big_f _ (acc ++ [1]) (by rw [List.length_append, List.length_singleton]; omega)) ?_)
      · simp only [keys_Encode.l0]
        rw [if_pos (by omega), if_pos (by omega), if_pos (by omega), if_pos (by rw [nums_length]; omega), hr, Option.bind_some, if_pos c, hn, hw, c, nums_append, w_one]
        rfl
      · have : acc ++ [1] ++ be8 (l[i].f1 + 9223372036854775808).toNat = acc ++ partB l[i] := by rw [hb, List.append_assoc]; rfl
        rw [this]
        exact ih
    · obtain ⟨z1, z2, z3, z4⟩ := ok_num oi c
      have hb : partB l[i] = 2 :: be8 (keyN l[i].f2) := by unfold partB; rw [if_neg (by omega), if_pos c]
      refine Ev.step (f := fun k => (keys_big.f k (nums (acc ++ [2])) ((keyN l[i].f2 : Nat) : Int)).bind fun t => keys_Encode.l0 k t l (l.length : Int) ((i + 1 : Nat) : Int)) (fun k => ?_) (Ev.bind (big_f _ (acc ++ [2]) (by rw [List.length_append, List.length_singleton]; omega)) ?_)
      · simp only [keys_Encode.l0]
        rw [if_pos (by omega), if_pos (by omega), if_pos (by omega), if_pos (by rw [nums_length]; omega), hr, Option.bind_some, if_neg (by omega), if_pos c, key_f _ wi.a2 wi.b2 z4, Option.bind_some, hw, c, nums_append, w_two]
        rfl
      · have : acc ++ [2] ++ be8 (keyN l[i].f2) = acc ++ partB l[i] := by rw [hb, List.append_assoc]; rfl
        rw [this]
        exact ih
    · obtain ⟨z1, z2, z3⟩ := ok_text oi c
      have hb : partB l[i] = 3 :: (esc (tx l[i]) ++ [0, 0]) := by unfold partB; rw [if_neg (by omega), if_neg (by omega)]
      have le := (esc_len (tx l[i])).1
      rw [tx_length] at le
      refine Ev.step (f := fun k => keys_Encode.l0 k (nums (acc ++ partB l[i])) l (l.length : Int) ((i + 1 : Nat) : Int)) (fun k => ?_) ih
      simp only [keys_Encode.l0]
      have hs : (⟨(esc l[i].f3.data.toList).toArray⟩ : ByteArray).size = (esc (tx l[i])).length := by
        rw [Lib.size_eq]; rfl
      have ha2 : ((⟨(esc l[i].f3.data.toList).toArray⟩ : ByteArray) ++ (⟨#[0, 0]⟩ : ByteArray)).data.toList = esc (tx l[i]) ++ [0, 0] := by
        rw [ByteArray.data_append, Array.toList_append]; rfl
      have hs2 : ((⟨(esc l[i].f3.data.toList).toArray⟩ : ByteArray) ++ (⟨#[0, 0]⟩ : ByteArray)).size = (esc (tx l[i])).length + 2 := by
        rw [Lib.size_eq, ha2, List.length_append]; rfl
      rw [if_pos (by omega), if_pos (by omega), if_pos (by omega), if_pos (by rw [nums_length]; omega), hr, Option.bind_some, if_neg (by omega), if_neg (by omega), replaceAll_f _ z3, Option.bind_some, hs, if_pos (by omega), hs2, if_pos (by rw [List.length_append, nums_length, List.length_singleton]; omega), hw, bytesOf_nums, ha2, c, hb]
      have : nums acc ++ [wrap64 (2 + 1) % 256] ++ nums (esc (tx l[i]) ++ [0, 0]) = nums (acc ++ 3 :: (esc (tx l[i]) ++ [0, 0])) := by
        rw [List.append_assoc, nums_append acc, w_three]
        rfl
      rw [this]

theorem chk_ok {l : List Part} (h : chk l = 0) : l.length ≤ 16 ∧ ∀ p ∈ l, okP p = true := by
  unfold chk at h
  split at h
  · cases h
  · split at h
    · rename_i h1 h2
      exact ⟨by omega, List.all_eq_true.mp h2⟩
    · cases h

/-- A key's bytes, or that there are none. -/
def encR (l : List Part) : ByteArray × Int := if chk l = 0 then (⟨(enc l).toArray⟩, 0) else (⟨#[]⟩, chk l)

theorem encode_ev (l : List Part) (w : ∀ p ∈ l, WF p) : Ev (fun k => keys_Encode.f k l) (encR l) := by
  unfold keys_Encode.f encR
  refine Ev.bind (check_ev l w) ?_
  by_cases h : chk l = 0
  · rw [if_pos h]
    simp only [h, if_true]
    obtain ⟨h1, h2⟩ := chk_ok h
    have := encode_loop l w h1 h2 l.length 0 [] (by omega) (by simp)
    simpa [nums] using this
  · rw [if_neg h]
    simp only [h, if_false]
    exact Ev.now _

theorem chk_vals (l : List Part) : chk l = 0 ∨ chk l = 30 := by
  unfold chk; split
  · exact .inr rfl
  · split
    · exact .inl rfl
    · exact .inr rfl

end Go.Proofs.YtpimfioeeipnhaaDoor.Pl
