/-
  What keys.Cmp comes to at keys, and that keys stand as their bytes do: plain laws. Conditions: the parts' fields are in their ranges, the parts may be a key's.
-/
import Derived.Test.YtpimfioeeipnhaaDoorKx16
import Derived.Test.YtpimfioeeipnhaaDoorSpecA
import Derived.Lib.Small
namespace Go.Proofs.YtpimfioeeipnhaaDoor.Pl
open Go.Proofs.YtpimfioeeipnhaaDoor.Hand Go.Proofs.YtpimfioeeipnhaaDoor.K Go.Lib Go.RowKit Go.Proofs.YtpimfioeeipnhaaDoorW.PrintWords Go.Proofs.YtpimfioeeipnhaaDoorW.PrintMore
set_option linter.unusedVariables false
set_option linter.unusedSimpArgs false

theorem compareInt_vals (x y : Int) : compareInt x y = -1 ∨ compareInt x y = 0 ∨ compareInt x y = 1 := by
  unfold compareInt; split
  · exact .inl rfl
  · split
    · exact .inr (.inr rfl)
    · exact .inr (.inl rfl)
theorem compareInt_zero {x y : Int} (h : compareInt x y = 0) : x = y := by
  unfold compareInt at h; split at h
  · cases h
  · split at h
    · cases h
    · omega
theorem compareInt_self (x : Int) : compareInt x x = 0 := by unfold compareInt; rw [if_neg (by omega), if_neg (by omega)]
theorem compareInt_swap (x y : Int) : compareInt y x = - compareInt x y := by
  unfold compareInt
  by_cases a : x < y
  · rw [if_pos a, if_neg (by omega), if_pos (by omega)]; rfl
  · by_cases b : y < x
    · rw [if_pos b, if_neg a, if_pos (by omega)]
    · rw [if_neg b, if_neg (by omega), if_neg a, if_neg (by omega)]; rfl
theorem compareInt_nat (m n : Nat) : (if m < n then (-1 : Int) else if n < m then 1 else 0) = compareInt m n := by
  unfold compareInt
  by_cases a : m < n
  · rw [if_pos a, if_pos (by omega)]
  · by_cases b : n < m
    · rw [if_neg a, if_pos b, if_neg (by omega), if_pos (by omega)]
    · rw [if_neg a, if_neg b, if_neg (by omega), if_neg (by omega)]

theorem compareInt_lt {x y : Int} (h : x < y) : compareInt x y = -1 := by unfold compareInt; rw [if_pos h]
theorem compareInt_gt {x y : Int} (h : y < x) : compareInt x y = 1 := by unfold compareInt; rw [if_neg (by omega), if_pos (by omega)]

def cmpPart (p q : Part) : Int :=
  if p.f0 < q.f0 then -1 else if q.f0 < p.f0 then 1
  else if p.f0 = 0 then compareInt p.f1 q.f1
  else if p.f0 = 1 then compareInt (keyN p.f2) (keyN q.f2)
  else compareBytes (tx p) (tx q)

theorem cmpPart_lt {p q : Part} (h : p.f0 < q.f0) : cmpPart p q = -1 := by unfold cmpPart; rw [if_pos h]
theorem cmpPart_gt {p q : Part} (h : q.f0 < p.f0) : cmpPart p q = 1 := by unfold cmpPart; rw [if_neg (by omega), if_pos h]
theorem cmpPart_int {p q : Part} (h : p.f0 = 0) (k : q.f0 = 0) : cmpPart p q = compareInt p.f1 q.f1 := by unfold cmpPart; rw [if_neg (by omega), if_neg (by omega), if_pos h]
theorem cmpPart_num {p q : Part} (h : p.f0 = 1) (k : q.f0 = 1) : cmpPart p q = compareInt (keyN p.f2) (keyN q.f2) := by unfold cmpPart; rw [if_neg (by omega), if_neg (by omega), if_neg (by omega), if_pos h]
theorem cmpPart_text {p q : Part} (h : p.f0 = 2) (k : q.f0 = 2) : cmpPart p q = compareBytes (tx p) (tx q) := by unfold cmpPart; rw [if_neg (by omega), if_neg (by omega), if_neg (by omega), if_neg (by omega)]
theorem partB_int {p : Part} (h : p.f0 = 0) : partB p = 1 :: be8 (p.f1 + 9223372036854775808).toNat := by unfold partB; rw [if_pos h]
theorem partB_num {p : Part} (h : p.f0 = 1) : partB p = 2 :: be8 (keyN p.f2) := by unfold partB; rw [if_neg (by omega), if_pos h]
theorem partB_text {p : Part} (h : p.f0 = 2) : partB p = 3 :: (esc (tx p) ++ [0, 0]) := by unfold partB; rw [if_neg (by omega), if_neg (by omega)]

def cmpP : List Part → List Part → Int
  | [], [] => 0
  | [], _ :: _ => -1
  | _ :: _, [] => 1
  | p :: a, q :: b => if cmpPart p q = 0 then cmpP a b else cmpPart p q

theorem cmpPart_swap (p q : Part) : cmpPart q p = - cmpPart p q := by
  unfold cmpPart
  by_cases a : p.f0 < q.f0
  · rw [if_pos a, if_neg (by omega), if_pos (by omega)]; rfl
  · by_cases b : q.f0 < p.f0
    · rw [if_pos b, if_neg a, if_pos (by omega)]
    · have e : q.f0 = p.f0 := by omega
      rw [if_neg b, if_neg a, if_neg a, if_neg b, e]
      by_cases c0 : p.f0 = 0
      · rw [if_pos c0, if_pos c0]; exact compareInt_swap _ _
      · rw [if_neg c0, if_neg c0]
        by_cases c1 : p.f0 = 1
        · rw [if_pos c1, if_pos c1]; exact compareInt_swap _ _
        · rw [if_neg c1, if_neg c1]; exact cmp_swap _ _

theorem cmpP_swap : ∀ a b : List Part, cmpP b a = - cmpP a b
  | [], [] => rfl
  | [], _ :: _ => rfl
  | _ :: _, [] => rfl
  | p :: a, q :: b => by
    rw [cmpP, cmpP, cmpPart_swap p q]
    by_cases z : cmpPart p q = 0
    · rw [if_pos z, if_pos (by omega)]; exact cmpP_swap a b
    · rw [if_neg z, if_neg (by omega)]

theorem cmpPart_vals (p q : Part) : cmpPart p q = -1 ∨ cmpPart p q = 0 ∨ cmpPart p q = 1 := by
  unfold cmpPart
  split
  · exact .inl rfl
  split
  · exact .inr (.inr rfl)
  split
  · exact compareInt_vals _ _
  split
  · exact compareInt_vals _ _
  · exact cmp_vals _ _

theorem cmpP_vals : ∀ a b : List Part, cmpP a b = -1 ∨ cmpP a b = 0 ∨ cmpP a b = 1
  | [], [] => .inr (.inl rfl)
  | [], _ :: _ => .inl rfl
  | _ :: _, [] => .inr (.inr rfl)
  | p :: a, q :: b => by
    rw [cmpP]; split
    · exact cmpP_vals a b
    · exact cmpPart_vals p q

theorem keyN_inj {a b : Int} (a0 : 0 ≤ a) (a1 : a < 18446744073709551616) (az : a ≠ 9223372036854775808) (b0 : 0 ≤ b) (b1 : b < 18446744073709551616) (bz : b ≠ 9223372036854775808) (h : keyN a = keyN b) : a = b := by
  unfold keyN at h
  split at h <;> split at h <;> omega

theorem part_ext {p q : Part} (h0 : p.f0 = q.f0) (h1 : p.f1 = q.f1) (h2 : p.f2 = q.f2) (h3 : tx p = tx q) : p = q := by
  obtain ⟨a, b, c, d⟩ := p
  obtain ⟨a', b', c', d'⟩ := q
  have := of_toList_eq h3
  simp_all

theorem cmpPart_zero {p q : Part} (wp : WF p) (wq : WF q) (op : okP p = true) (oq : okP q = true) (h : cmpPart p q = 0) : p = q := by
  unfold cmpPart at h
  split at h
  · cases h
  split at h
  · cases h
  have e : p.f0 = q.f0 := by omega
  rcases ok_kind op with c | c | c
  · rw [if_pos c] at h
    obtain ⟨a1, a2⟩ := ok_int op c
    obtain ⟨b1, b2⟩ := ok_int oq (by omega)
    exact part_ext e (compareInt_zero h) (by omega) (by rw [a2, b2])
  · rw [if_neg (by omega), if_pos c] at h
    obtain ⟨a1, a2, a3, a4⟩ := ok_num op c
    obtain ⟨b1, b2, b3, b4⟩ := ok_num oq (by omega)
    have := compareInt_zero h
    exact part_ext e (by omega) (keyN_inj wp.a2 wp.b2 a3 wq.a2 wq.b2 b3 (by omega)) (by rw [a2, b2])
  · rw [if_neg (by omega), if_neg (by omega)] at h
    obtain ⟨a1, a2, a3⟩ := ok_text op c
    obtain ⟨b1, b2, b3⟩ := ok_text oq (by omega)
    exact part_ext e (by omega) (by omega) (cmp_zero h)

theorem cmpPart_self (p : Part) : cmpPart p p = 0 := by
  unfold cmpPart
  rw [if_neg (by omega), if_neg (by omega)]
  split
  · exact compareInt_self _
  split
  · exact compareInt_self _
  · exact cmp_self _

theorem cmp_partB {p q : Part} (wp : WF p) (wq : WF q) (op : okP p = true) (oq : okP q = true) (x y : List UInt8) :
    compareBytes (partB p ++ x) (partB q ++ y) = if cmpPart p q = 0 then compareBytes x y else cmpPart p q := by
  have key : ∀ m n : Nat, m < 18446744073709551616 → n < 18446744073709551616 → compareBytes (be8 m ++ x) (be8 n ++ y) = if compareInt m n = 0 then compareBytes x y else compareInt m n := fun m n hm hn => by
    rw [cmp_be8 m n x y hm hn]
    rcases Nat.lt_trichotomy m n with a | a | a
    · rw [if_pos a, compareInt_lt (by omega : (m : Int) < n)]; rfl
    · subst a; rw [if_neg (by omega), if_neg (by omega), compareInt_self]; rfl
    · rw [if_neg (by omega), if_pos a, compareInt_gt (by omega : (n : Int) < m)]; rfl
  rcases ok_kind op with c | c | c <;> rcases ok_kind oq with d | d | d
  · have := wp.a1; have := wp.b1; have := wq.a1; have := wq.b1
    have e : compareInt ((p.f1 + 9223372036854775808).toNat : Int) ((q.f1 + 9223372036854775808).toNat : Int) = compareInt p.f1 q.f1 := by
      rcases Int.lt_trichotomy p.f1 q.f1 with a | a | a
      · rw [compareInt_lt a, compareInt_lt (by omega)]
      · rw [a, compareInt_self, compareInt_self]
      · rw [compareInt_gt a, compareInt_gt (by omega)]
    rw [partB_int c, partB_int d, cmpPart_int c d, List.cons_append, List.cons_append, cmp_cons_eq, key _ _ (by omega) (by omega), e]
  · rw [partB_int c, partB_num d, cmpPart_lt (by omega)]; rfl
  · rw [partB_int c, partB_text d, cmpPart_lt (by omega)]; rfl
  · rw [partB_num c, partB_int d, cmpPart_gt (by omega)]; rfl
  · rw [partB_num c, partB_num d, cmpPart_num c d, List.cons_append, List.cons_append, cmp_cons_eq, key _ _ (keyN_lt _ wp.a2) (keyN_lt _ wq.a2)]
  · rw [partB_num c, partB_text d, cmpPart_lt (by omega)]; rfl
  · rw [partB_text c, partB_int d, cmpPart_gt (by omega)]; rfl
  · rw [partB_text c, partB_num d, cmpPart_gt (by omega)]; rfl
  · rw [partB_text c, partB_text d, cmpPart_text c d, List.cons_append, List.cons_append, cmp_cons_eq, List.append_assoc, List.append_assoc]
    exact cmp_esc _ _ _ _

theorem partB_ne (p : Part) : partB p ≠ [] := by unfold partB; split; simp; split <;> simp

theorem cmp_enc : ∀ (a b : List Part), (∀ p ∈ a, WF p) → (∀ p ∈ b, WF p) → (∀ p ∈ a, okP p = true) → (∀ p ∈ b, okP p = true) → compareBytes (enc a) (enc b) = cmpP a b
  | [], [], _, _, _, _ => rfl
  | [], q :: b, _, _, _, _ => by
    have : enc (q :: b) = partB q ++ enc b := rfl
    rw [this]
    cases h : partB q with
    | nil => exact absurd h (partB_ne q)
    | cons c l => rfl
  | p :: a, [], _, _, _, _ => by
    have : enc (p :: a) = partB p ++ enc a := rfl
    rw [this]
    cases h : partB p with
    | nil => exact absurd h (partB_ne p)
    | cons c l => rfl
  | p :: a, q :: b, wa, wb, oa, ob => by
    have e1 : enc (p :: a) = partB p ++ enc a := rfl
    have e2 : enc (q :: b) = partB q ++ enc b := rfl
    rw [e1, e2, cmp_partB (wa p (by simp)) (wb q (by simp)) (oa p (by simp)) (ob q (by simp)), cmpP, cmp_enc a b (fun r h => wa r (by simp [h])) (fun r h => wb r (by simp [h])) (fun r h => oa r (by simp [h])) (fun r h => ob r (by simp [h]))]

theorem cmpP_zero : ∀ {a b : List Part}, (∀ p ∈ a, WF p) → (∀ p ∈ b, WF p) → (∀ p ∈ a, okP p = true) → (∀ p ∈ b, okP p = true) → cmpP a b = 0 → a = b
  | [], [], _, _, _, _, _ => rfl
  | [], _ :: _, _, _, _, _, h => by cases h
  | _ :: _, [], _, _, _, _, h => by cases h
  | p :: a, q :: b, wa, wb, oa, ob, h => by
    rw [cmpP] at h
    by_cases z : cmpPart p q = 0
    · rw [if_pos z] at h
      rw [cmpPart_zero (wa p (by simp)) (wb q (by simp)) (oa p (by simp)) (ob q (by simp)) z, cmpP_zero (fun r h => wa r (by simp [h])) (fun r h => wb r (by simp [h])) (fun r h => oa r (by simp [h])) (fun r h => ob r (by simp [h])) h]
    · rw [if_neg z] at h
      exact absurd h z

theorem cmpP_self : ∀ a : List Part, cmpP a a = 0
  | [] => rfl
  | p :: a => by rw [cmpP, if_pos (cmpPart_self p)]; exact cmpP_self a

theorem cmpP_snoc : ∀ (l : List Part) (p q : Part), cmpP (l ++ [p]) (l ++ [q]) = cmpP [p] [q]
  | [], _, _ => rfl
  | r :: l, p, q => by rw [List.cons_append, List.cons_append, cmpP, if_pos (cmpPart_self r)]; exact cmpP_snoc l p q

/-! the code -/
theorem compare_f (x y : Int) : cmp_Compare_int.f x y = some (compareInt x y) := by
  unfold cmp_Compare_int.f cmp_isNaN_int.f compareInt
  simp
  by_cases a : x < y
  · rw [if_pos a, if_pos a]
  · rw [if_neg a, if_neg a]
    by_cases b : y < x
    · rw [if_pos b, if_pos b]
    · rw [if_neg b, if_neg b]

theorem sv_key (a : Int) (h0 : 0 ≤ a) (h1 : a < 18446744073709551616) (hz : a ≠ 9223372036854775808) : sv a.toNat = (keyN a : Int) - 9223372036854775808 := by
  unfold sv keyN sg
  by_cases c : a < 9223372036854775808
  · rw [if_pos c, decide_eq_false (by omega)]; simp; omega
  · rw [if_neg c, decide_eq_true (by omega)]; simp; omega

theorem fcmp_f (a b : Int) (a0 : 0 ≤ a) (a1 : a < 18446744073709551616) (az : a ≠ 9223372036854775808) (an : a % 9223372036854775808 ≤ 9218868437227405312)
    (b0 : 0 ≤ b) (b1 : b < 18446744073709551616) (bz : b ≠ 9223372036854775808) (bn : b % 9223372036854775808 ≤ 9218868437227405312) :
    floats_Cmp.f a b = some (compareInt (keyN a) (keyN b), true) := by
  unfold floats_Cmp.f
  show (if Ieee.double.order a.toNat a.toNat = some .eq then (if Ieee.double.order b.toNat b.toNat = some .eq then (if Ieee.double.order a.toNat b.toNat = some .lt then some (-1, true) else if Ieee.double.order a.toNat b.toNat = some .gt then some (1, true) else some (0, true)) else some (0, false)) else some (0, false)) = _
  rw [order_sv _ _ (by omega) (by omega) (by omega) (by omega), order_sv _ _ (by omega) (by omega) (by omega) (by omega), order_sv _ _ (by omega) (by omega) (by omega) (by omega), sv_key a a0 a1 az, sv_key b b0 b1 bz]
  have eq (x : Int) : cmpI x x = .eq := by unfold cmpI; rw [if_neg (by omega), if_pos rfl]
  have lt {x y : Int} (h : x < y) : cmpI x y = .lt := by unfold cmpI; rw [if_pos h]
  have gt {x y : Int} (h : y < x) : cmpI x y = .gt := by unfold cmpI; rw [if_neg (by omega), if_neg (by omega)]
  rw [eq, eq, if_pos rfl, if_pos rfl]
  rcases Int.lt_trichotomy (keyN a : Int) (keyN b : Int) with c | c | c
  · rw [lt (by omega), compareInt_lt c, if_pos rfl]
  · rw [c, eq, compareInt_self, if_neg (by decide), if_neg (by decide)]
  · rw [gt (by omega), compareInt_gt c, if_neg (by decide), if_pos rfl]

theorem same_iff (p q : Part) : (p.f0 == q.f0 && (p.f1 == q.f1 && (p.f2 == q.f2 && (p.f3.toList == q.f3.toList)))) = true ↔ p = q := by
  rw [toList_tx, toList_tx]
  constructor
  · intro h
    simp at h
    exact part_ext h.1 h.2.1 h.2.2.1 h.2.2.2
  · rintro rfl; simp

theorem mn_nat (a b : Nat) : mn (a : Int) (b : Int) = ((min a b : Nat) : Int) := by
  unfold mn; split <;> omega

theorem cmp_loop (a b : List Part) (wa : ∀ p ∈ a, WF p) (wb : ∀ p ∈ b, WF p) (oa : ∀ p ∈ a, okP p = true) (ob : ∀ p ∈ b, okP p = true) (ha : a.length ≤ 16) : ∀ (d i : Nat), i + d = min a.length b.length →
    Ev (fun k => keys_Cmp.l0 k a b ((min a.length b.length : Nat) : Int) (i : Int)) (cmpP (a.drop i) (b.drop i))
  | 0, i, h => by
    have e : cmpP (a.drop i) (b.drop i) = compareInt a.length b.length := by
      by_cases c : i < a.length
      · rw [List.drop_eq_getElem_cons c, List.drop_eq_nil_of_le (by omega : b.length ≤ i)]
        unfold compareInt
        rw [if_neg (by omega), if_pos (by omega)]; rfl
      · rw [List.drop_eq_nil_of_le (by omega : a.length ≤ i)]
        by_cases c2 : i < b.length
        · rw [List.drop_eq_getElem_cons c2]
          unfold compareInt
          rw [if_pos (by omega)]; rfl
        · rw [List.drop_eq_nil_of_le (by omega : b.length ≤ i)]
          unfold compareInt
          rw [if_neg (by omega), if_neg (by omega)]; rfl
    rw [e]
    exact Ev.step (f := fun _ => some (compareInt a.length b.length)) (fun k => by simp only [keys_Cmp.l0]; rw [if_neg (by omega), compare_f]; rfl) (Ev.now _)
  | d + 1, i, h => by
    have ia : i < a.length := by omega
    have ib : i < b.length := by omega
    have ea := List.drop_eq_getElem_cons ia
    have eb := List.drop_eq_getElem_cons ib
    have ih := cmp_loop a b wa wb oa ob ha d (i + 1) (by omega)
    have wp := wa _ (List.getElem_mem ia); have wq := wb _ (List.getElem_mem ib)
    have op := oa _ (List.getElem_mem ia); have oq := ob _ (List.getElem_mem ib)
    rw [ea, eb, cmpP]
    by_cases e : a[i] = b[i]
    · rw [e, if_pos (cmpPart_self _)]
      refine Ev.step (f := fun k => keys_Cmp.l0 k a b ((min a.length b.length : Nat) : Int) ((i + 1 : Nat) : Int)) (fun k => ?_) ih
      simp only [keys_Cmp.l0]
      rw [if_pos (by omega), if_pos (by omega), if_pos (by omega), if_pos (by omega), rd_nat a i ia, rd_nat b i ib, if_pos ((same_iff _ _).mpr e), wrap_succ i (by omega)]
    · have hz : ¬ cmpPart a[i] b[i] = 0 := fun z => e (cmpPart_zero wp wq op oq z)
      rw [if_neg hz]
      refine Ev.step (f := fun _ => some (cmpPart a[i] b[i])) (fun k => ?_) (Ev.now _)
      simp only [keys_Cmp.l0]
      rw [if_pos (by omega), if_pos (by omega), if_pos (by omega), if_pos (by omega), rd_nat a i ia, rd_nat b i ib, if_neg (fun z => e ((same_iff _ _).mp z)), compare_f, Option.bind_some]
      by_cases k0 : a[i].f0 < b[i].f0
      · rw [compareInt_lt k0, cmpPart_lt k0, if_neg (by decide)]
      · by_cases k1 : b[i].f0 < a[i].f0
        · rw [compareInt_gt k1, cmpPart_gt k1, if_neg (by decide)]
        · have hk : a[i].f0 = b[i].f0 := by omega
          rw [hk, compareInt_self, if_pos rfl, ← hk]
          rcases ok_kind op with c | c | c
          · rw [cmpPart_int c (by omega), if_pos c, compare_f]; rfl
          · obtain ⟨x1, x2, x3, x4⟩ := ok_num op c
            obtain ⟨y1, y2, y3, y4⟩ := ok_num oq (by omega)
            rw [cmpPart_num c (by omega), if_neg (by omega), if_pos c, fcmp_f _ _ wp.a2 wp.b2 x3 x4 wq.a2 wq.b2 y3 y4]; rfl
          · rw [cmpPart_text c (by omega), if_neg (by omega), if_neg (by omega)]; rfl

theorem cmp_ev (a b : List Part) (wa : ∀ p ∈ a, WF p) (wb : ∀ p ∈ b, WF p) (ha : chk a = 0) (hb : chk b = 0) : Ev (fun k => keys_Cmp.f k a b) (cmpP a b) := by
  unfold keys_Cmp.f
  obtain ⟨la, oa⟩ := chk_ok ha
  obtain ⟨lb, ob⟩ := chk_ok hb
  have := cmp_loop a b wa wb oa ob la (min a.length b.length) 0 (by omega)
  rw [mn_nat]
  simpa using this

end Go.Proofs.YtpimfioeeipnhaaDoor.Pl
