/-
  The law KeysReads: its row and its card (the second form), out of the walk and the plain law. No condition.
-/
import Derived.Test.YtpimfioeeipnhaaDoorKx16
import Derived.Test.YtpimfioeeipnhaaDoorSpecA
import Derived.Lib.Small
import Derived.Test.YtpimfioeeipnhaaDoorKx13
import Derived.Test.YtpimfioeeipnhaaDoorKx8
import Derived.Test.YtpimfioeeipnhaaDoorKx12
import Derived.Test.YtpimfioeeipnhaaDoorKx22
import Derived.Test.YtpimfioeeipnhaaDoorKx23
import Derived.Test.YtpimfioeeipnhaaDoorKx24
import Derived.Test.YtpimfioeeipnhaaDoorArgs
/-
  What keys.Cmp comes to at keys, and that keys stand as their bytes do: plain laws. Conditions: the parts' fields are in their ranges, the parts may be a key's.
-/
namespace Go.Proofs.YtpimfioeeipnhaaDoor.Pl
open Go.Proofs.YtpimfioeeipnhaaDoor.Hand Go.Proofs.YtpimfioeeipnhaaDoor.K Go.Lib Go.RowKit Go.Proofs.YtpimfioeeipnhaaDoorW.PrintWords Go.Proofs.YtpimfioeeipnhaaDoorW.PrintMore
set_option linter.unusedVariables false
set_option linter.unusedSimpArgs false

theorem compareInt_vals (x y : Int) : compareInt x y = -1 ∨ compareInt x y = 0 ∨ compareInt x y = 1 := by
  unfold compareInt; split
  · exact .inl rfl
  · split
    · exact .inr (.inr rfl)
    · exact .inr (.inl rfl)
theorem compareInt_zero {x y : Int} (h : compareInt x y = 0) : x = y := by
  unfold compareInt at h; split at h
  · cases h
  · split at h
    · cases h
    · omega
theorem compareInt_self (x : Int) : compareInt x x = 0 := by unfold compareInt; rw [if_neg (by omega), if_neg (by omega)]
theorem compareInt_swap (x y : Int) : compareInt y x = - compareInt x y := by
  unfold compareInt
  by_cases a : x < y
  · rw [if_pos a, if_neg (by omega), if_pos (by omega)]; rfl
  · by_cases b : y < x
    · rw [if_pos b, if_neg a, if_pos (by omega)]
    · rw [if_neg b, if_neg (by omega), if_neg a, if_neg (by omega)]; rfl
theorem compareInt_nat (m n : Nat) : (if m < n then (-1 : Int) else if n < m then 1 else 0) = compareInt m n := by
  unfold compareInt
  by_cases a : m < n
  · rw [if_pos a, if_pos (by omega)]
  · by_cases b : n < m
    · rw [if_neg a, if_pos b, if_neg (by omega), if_pos (by omega)]
    · rw [if_neg a, if_neg b, if_neg (by omega), if_neg (by omega)]

theorem compareInt_lt {x y : Int} (h : x < y) : compareInt x y = -1 := by unfold compareInt; rw [if_pos h]
theorem compareInt_gt {x y : Int} (h : y < x) : compareInt x y = 1 := by unfold compareInt; rw [if_neg (by omega), if_pos (by omega)]

def cmpPart (p q : Part) : Int :=
  if p.f0 < q.f0 then -1 else if q.f0 < p.f0 then 1
  else if p.f0 = 0 then compareInt p.f1 q.f1
  else if p.f0 = 1 then compareInt (keyN p.f2) (keyN q.f2)
  else compareBytes (tx p) (tx q)

theorem cmpPart_lt {p q : Part} (h : p.f0 < q.f0) : cmpPart p q = -1 := by unfold cmpPart; rw [if_pos h]
theorem cmpPart_gt {p q : Part} (h : q.f0 < p.f0) : cmpPart p q = 1 := by unfold cmpPart; rw [if_neg (by omega), if_pos h]
theorem cmpPart_int {p q : Part} (h : p.f0 = 0) (k : q.f0 = 0) : cmpPart p q = compareInt p.f1 q.f1 := by unfold cmpPart; rw [if_neg (by omega), if_neg (by omega), if_pos h]
theorem cmpPart_num {p q : Part} (h : p.f0 = 1) (k : q.f0 = 1) : cmpPart p q = compareInt (keyN p.f2) (keyN q.f2) := by unfold cmpPart; rw [if_neg (by omega), if_neg (by omega), if_neg (by omega), if_pos h]
theorem cmpPart_text {p q : Part} (h : p.f0 = 2) (k : q.f0 = 2) : cmpPart p q = compareBytes (tx p) (tx q) := by unfold cmpPart; rw [if_neg (by omega), if_neg (by omega), if_neg (by omega), if_neg (by omega)]
theorem partB_int {p : Part} (h : p.f0 = 0) : partB p = 1 :: be8 (p.f1 + 9223372036854775808).toNat := by unfold partB; rw [if_pos h]
theorem partB_num {p : Part} (h : p.f0 = 1) : partB p = 2 :: be8 (keyN p.f2) := by unfold partB; rw [if_neg (by omega), if_pos h]
theorem partB_text {p : Part} (h : p.f0 = 2) : partB p = 3 :: (esc (tx p) ++ [0, 0]) := by unfold partB; rw [if_neg (by omega), if_neg (by omega)]

def cmpP : List Part → List Part → Int
  | [], [] => 0
  | [], _ :: _ => -1
  | _ :: _, [] => 1
  | p :: a, q :: b => if cmpPart p q = 0 then cmpP a b else cmpPart p q

theorem cmpPart_swap (p q : Part) : cmpPart q p = - cmpPart p q := by
  unfold cmpPart
  by_cases a : p.f0 < q.f0
  · rw [if_pos a, if_neg (by omega), if_pos (by omega)]; rfl
  · by_cases b : q.f0 < p.f0
    · rw [if_pos b, if_neg a, if_pos (by omega)]
    · have e : q.f0 = p.f0 := by omega
      rw [if_neg b, if_neg a, if_neg a, if_neg b, e]
      by_cases c0 : p.f0 = 0
      · rw [if_pos c0, if_pos c0]; exact compareInt_swap _ _
      · rw [if_neg c0, if_neg c0]
        by_cases c1 : p.f0 = 1
        · rw [if_pos c1, if_pos c1]; exact compareInt_swap _ _
        · rw [if_neg c1, if_neg c1]; exact cmp_swap _ _

theorem cmpP_swap : ∀ a b : List Part, cmpP b a = - cmpP a b
  | [], [] => rfl
  | [], _ :: _ => rfl
  | _ :: _, [] => rfl
  | p :: a, q :: b => by
    rw [cmpP, cmpP, cmpPart_swap p q]
    by_cases z : cmpPart p q = 0
    · rw [if_pos z, if_pos (by omega)]; exact cmpP_swap a b
    · rw [if_neg z, if_neg (by omega)]

theorem cmpPart_vals (p q : Part) : cmpPart p q = -1 ∨ cmpPart p q = 0 ∨ cmpPart p q = 1 := by
  unfold cmpPart
  split
  · exact .inl rfl
  split
  · exact .inr (.inr rfl)
  split
  · exact compareInt_vals _ _
  split
  · exact compareInt_vals _ _
  · exact cmp_vals _ _

theorem cmpP_vals : ∀ a b : List Part, cmpP a b = -1 ∨ cmpP a b = 0 ∨ cmpP a b = 1
  | [], [] => .inr (.inl rfl)
  | [], _ :: _ => .inl rfl
  | _ :: _, [] => .inr (.inr rfl)
  | p :: a, q :: b => by
    rw [cmpP]; split
    · exact cmpP_vals a b
    · exact cmpPart_vals p q

theorem keyN_inj {a b : Int} (a0 : 0 ≤ a) (a1 : a < 18446744073709551616) (az : a ≠ 9223372036854775808) (b0 : 0 ≤ b) (b1 : b < 18446744073709551616) (bz : b ≠ 9223372036854775808) (h : keyN a = keyN b) : a = b := by
  unfold keyN at h
  split at h <;> split at h <;> omega

theorem part_ext {p q : Part} (h0 : p.f0 = q.f0) (h1 : p.f1 = q.f1) (h2 : p.f2 = q.f2) (h3 : tx p = tx q) : p = q := by
  obtain ⟨a, b, c, d⟩ := p
  obtain ⟨a', b', c', d'⟩ := q
  have := of_toList_eq h3
  simp_all

theorem cmpPart_zero {p q : Part} (wp : WF p) (wq : WF q) (op : okP p = true) (oq : okP q = true) (h : cmpPart p q = 0) : p = q := by
  unfold cmpPart at h
  split at h
  · cases h
  split at h
  · cases h
  have e : p.f0 = q.f0 := by omega
  rcases ok_kind op with c | c | c
  · rw [if_pos c] at h
    obtain ⟨a1, a2⟩ := ok_int op c
    obtain ⟨b1, b2⟩ := ok_int oq (by omega)
    exact part_ext e (compareInt_zero h) (by omega) (by rw [a2, b2])
  · rw [if_neg (by omega), if_pos c] at h
    obtain ⟨a1, a2, a3, a4⟩ := ok_num op c
    obtain ⟨b1, b2, b3, b4⟩ := ok_num oq (by omega)
    have := compareInt_zero h
    exact part_ext e (by omega) (keyN_inj wp.a2 wp.b2 a3 wq.a2 wq.b2 b3 (by omega)) (by rw [a2, b2])
  · rw [if_neg (by omega), if_neg (by omega)] at h
    obtain ⟨a1, a2, a3⟩ := ok_text op c
    obtain ⟨b1, b2, b3⟩ := ok_text oq (by omega)
    exact part_ext e (by omega) (by omega) (cmp_zero h)

theorem cmpPart_self (p : Part) : cmpPart p p = 0 := by
  unfold cmpPart
  rw [if_neg (by omega), if_neg (by omega)]
  split
  · exact compareInt_self _
  split
  · exact compareInt_self _
  · exact cmp_self _

theorem cmp_partB {p q : Part} (wp : WF p) (wq : WF q) (op : okP p = true) (oq : okP q = true) (x y : List UInt8) :
    compareBytes (partB p ++ x) (partB q ++ y) = if cmpPart p q = 0 then compareBytes x y else cmpPart p q := by
  have key : ∀ m n : Nat, m < 18446744073709551616 → n < 18446744073709551616 → compareBytes (be8 m ++ x) (be8 n ++ y) = if compareInt m n = 0 then compareBytes x y else compareInt m n := fun m n hm hn => by
    rw [cmp_be8 m n x y hm hn]
    rcases Nat.lt_trichotomy m n with a | a | a
    · rw [if_pos a, compareInt_lt (by omega : (m : Int) < n)]; rfl
    · subst a; rw [if_neg (by omega), if_neg (by omega), compareInt_self]; rfl
    · rw [if_neg (by omega), if_pos a, compareInt_gt (by omega : (n : Int) < m)]; rfl
  rcases ok_kind op with c | c | c <;> rcases ok_kind oq with d | d | d
  · have := wp.a1; have := wp.b1; have := wq.a1; have := wq.b1
    have e : compareInt ((p.f1 + 9223372036854775808).toNat : Int) ((q.f1 + 9223372036854775808).toNat : Int) = compareInt p.f1 q.f1 := by
      rcases Int.lt_trichotomy p.f1 q.f1 with a | a | a
      · rw [compareInt_lt a, compareInt_lt (by omega)]
      · rw [a, compareInt_self, compareInt_self]
      · rw [compareInt_gt a, compareInt_gt (by omega)]
    rw [partB_int c, partB_int d, cmpPart_int c d, List.cons_append, List.cons_append, cmp_cons_eq, key _ _ (by omega) (by omega), e]
  · rw [partB_int c, partB_num d, cmpPart_lt (by omega)]; rfl
  · rw [partB_int c, partB_text d, cmpPart_lt (by omega)]; rfl
  · rw [partB_num c, partB_int d, cmpPart_gt (by omega)]; rfl
  · rw [partB_num c, partB_num d, cmpPart_num c d, List.cons_append, List.cons_append, cmp_cons_eq, key _ _ (keyN_lt _ wp.a2) (keyN_lt _ wq.a2)]
  · rw [partB_num c, partB_text d, cmpPart_lt (by omega)]; rfl
  · rw [partB_text c, partB_int d, cmpPart_gt (by omega)]; rfl
  · rw [partB_text c, partB_num d, cmpPart_gt (by omega)]; rfl
  · rw [partB_text c, partB_text d, cmpPart_text c d, List.cons_append, List.cons_append, cmp_cons_eq, List.append_assoc, List.append_assoc]
    exact cmp_esc _ _ _ _

theorem partB_ne (p : Part) : partB p ≠ [] := by unfold partB; split; simp; split <;> simp

theorem cmp_enc : ∀ (a b : List Part), (∀ p ∈ a, WF p) → (∀ p ∈ b, WF p) → (∀ p ∈ a, okP p = true) → (∀ p ∈ b, okP p = true) → compareBytes (enc a) (enc b) = cmpP a b
  | [], [], _, _, _, _ => rfl
  | [], q :: b, _, _, _, _ => by
    have : enc (q :: b) = partB q ++ enc b := rfl
    rw [this]
    cases h : partB q with
    | nil => exact absurd h (partB_ne q)
    | cons c l => rfl
  | p :: a, [], _, _, _, _ => by
    have : enc (p :: a) = partB p ++ enc a := rfl
    rw [this]
    cases h : partB p with
    | nil => exact absurd h (partB_ne p)
    | cons c l => rfl
  | p :: a, q :: b, wa, wb, oa, ob => by
    have e1 : enc (p :: a) = partB p ++ enc a := rfl
    have e2 : enc (q :: b) = partB q ++ enc b := rfl
    rw [e1, e2, cmp_partB (wa p (by simp)) (wb q (by simp)) (oa p (by simp)) (ob q (by simp)), cmpP, cmp_enc a b (fun r h => wa r (by simp [h])) (fun r h => wb r (by simp [h])) (fun r h => oa r (by simp [h])) (fun r h => ob r (by simp [h]))]

theorem cmpP_zero : ∀ {a b : List Part}, (∀ p ∈ a, WF p) → (∀ p ∈ b, WF p) → (∀ p ∈ a, okP p = true) → (∀ p ∈ b, okP p = true) → cmpP a b = 0 → a = b
  | [], [], _, _, _, _, _ => rfl
  | [], _ :: _, _, _, _, _, h => by cases h
  | _ :: _, [], _, _, _, _, h => by cases h
  | p :: a, q :: b, wa, wb, oa, ob, h => by
    rw [cmpP] at h
    by_cases z : cmpPart p q = 0
    · rw [if_pos z] at h
      rw [cmpPart_zero (wa p (by simp)) (wb q (by simp)) (oa p (by simp)) (ob q (by simp)) z, cmpP_zero (fun r h => wa r (by simp [h])) (fun r h => wb r (by simp [h])) (fun r h => oa r (by simp [h])) (fun r h => ob r (by simp [h])) h]
    · rw [if_neg z] at h
      exact absurd h z

theorem cmpP_self : ∀ a : List Part, cmpP a a = 0
  | [] => rfl
  | p :: a => by rw [cmpP, if_pos (cmpPart_self p)]; exact cmpP_self a

theorem cmpP_snoc : ∀ (l : List Part) (p q : Part), cmpP (l ++ [p]) (l ++ [q]) = cmpP [p] [q]
  | [], _, _ => rfl
  | r :: l, p, q => by rw [List.cons_append, List.cons_append, cmpP, if_pos (cmpPart_self r)]; exact cmpP_snoc l p q

/-! the code -/
theorem compare_f (x y : Int) : cmp_Compare_int.f x y = some (compareInt x y) := by
  unfold cmp_Compare_int.f cmp_isNaN_int.f compareInt
  simp
  by_cases a : x < y
  · rw [if_pos a, if_pos a]
  · rw [if_neg a, if_neg a]
    by_cases b : y < x
    · rw [if_pos b, if_pos b]
    · rw [if_neg b, if_neg b]

theorem sv_key (a : Int) (h0 : 0 ≤ a) (h1 : a < 18446744073709551616) (hz : a ≠ 9223372036854775808) : sv a.toNat = (keyN a : Int) - 9223372036854775808 := by
  unfold sv keyN sg
  by_cases c : a < 9223372036854775808
  · rw [if_pos c, decide_eq_false (by omega)]; simp; omega
  · rw [if_neg c, decide_eq_true (by omega)]; simp; omega

theorem fcmp_f (a b : Int) (a0 : 0 ≤ a) (a1 : a < 18446744073709551616) (az : a ≠ 9223372036854775808) (an : a % 9223372036854775808 ≤ 9218868437227405312)
    (b0 : 0 ≤ b) (b1 : b < 18446744073709551616) (bz : b ≠ 9223372036854775808) (bn : b % 9223372036854775808 ≤ 9218868437227405312) :
    floats_Cmp.f a b = some (compareInt (keyN a) (keyN b), true) := by
  unfold floats_Cmp.f
  show (if Ieee.double.order a.toNat a.toNat = some .eq then (if Ieee.double.order b.toNat b.toNat = some .eq then (if Ieee.double.order a.toNat b.toNat = some .lt then some (-1, true) else if Ieee.double.order a.toNat b.toNat = some .gt then some (1, true) else some (0, true)) else some (0, false)) else some (0, false)) = _
  rw [order_sv _ _ (by omega) (by omega) (by omega) (by omega), order_sv _ _ (by omega) (by omega) (by omega) (by omega), order_sv _ _ (by omega) (by omega) (by omega) (by omega), sv_key a a0 a1 az, sv_key b b0 b1 bz]
  have eq (x : Int) : cmpI x x = .eq := by unfold cmpI; rw [if_neg (by omega), if_pos rfl]
  have lt {x y : Int} (h : x < y) : cmpI x y = .lt := by unfold cmpI; rw [if_pos h]
  have gt {x y : Int} (h : y < x) : cmpI x y = .gt := by unfold cmpI; rw [if_neg (by omega), if_neg (by omega)]
  rw [eq, eq, if_pos rfl, if_pos rfl]
  rcases Int.lt_trichotomy (keyN a : Int) (keyN b : Int) with c | c | c
  · rw [lt (by omega), compareInt_lt c, if_pos rfl]
  · rw [c, eq, compareInt_self, if_neg (by decide), if_neg (by decide)]
  · rw [gt (by omega), compareInt_gt c, if_neg (by decide), if_pos rfl]

theorem same_iff (p q : Part) : (p.f0 == q.f0 && (p.f1 == q.f1 && (p.f2 == q.f2 && (p.f3.toList == q.f3.toList)))) = true ↔ p = q := by
  rw [toList_tx, toList_tx]
  constructor
  · intro h
    simp at h
    exact part_ext h.1 h.2.1 h.2.2.1 h.2.2.2
  · rintro rfl; simp

theorem mn_nat (a b : Nat) : mn (a : Int) (b : Int) = ((min a b : Nat) : Int) := by
  unfold mn; split <;> omega

theorem cmp_loop (a b : List Part) (wa : ∀ p ∈ a, WF p) (wb : ∀ p ∈ b, WF p) (oa : ∀ p ∈ a, okP p = true) (ob : ∀ p ∈ b, okP p = true) (ha : a.length ≤ 16) : ∀ (d i : Nat), i + d = min a.length b.length →
    Ev (fun k => keys_Cmp.l0 k a b ((min a.length b.length : Nat) : Int) (i : Int)) (cmpP (a.drop i) (b.drop i))
  | 0, i, h => by
    have e : cmpP (a.drop i) (b.drop i) = compareInt a.length b.length := by
      by_cases c : i < a.length
      · rw [List.drop_eq_getElem_cons c, List.drop_eq_nil_of_le (by omega : b.length ≤ i)]
        unfold compareInt
        rw [if_neg (by omega), if_pos (by omega)]; rfl
      · rw [List.drop_eq_nil_of_le (by omega : a.length ≤ i)]
        by_cases c2 : i < b.length
        · rw [List.drop_eq_getElem_cons c2]
          unfold compareInt
          rw [if_pos (by omega)]; rfl
        · rw [List.drop_eq_nil_of_le (by omega : b.length ≤ i)]
          unfold compareInt
          rw [if_neg (by omega), if_neg (by omega)]; rfl
    rw [e]
    exact Ev.step (f := fun _ => some (compareInt a.length b.length)) (fun k => by simp only [keys_Cmp.l0]; rw [if_neg (by omega), compare_f]; rfl) (Ev.now _)
  | d + 1, i, h => by
    have ia : i < a.length := by omega
    have ib : i < b.length := by omega
    have ea := List.drop_eq_getElem_cons ia
    have eb := List.drop_eq_getElem_cons ib
    have ih := cmp_loop a b wa wb oa ob ha d (i + 1) (by omega)
    have wp := wa _ (List.getElem_mem ia); have wq := wb _ (List.getElem_mem ib)
    have op := oa _ (List.getElem_mem ia); have oq := ob _ (List.getElem_mem ib)
    rw [ea, eb, cmpP]
    by_cases e : a[i] = b[i]
    · rw [e, if_pos (cmpPart_self _)]
      refine Ev.step (f := fun k => keys_Cmp.l0 k a b ((min a.length b.length : Nat) : Int) ((i + 1 : Nat) : Int)) (fun k => ?_) ih
      simp only [keys_Cmp.l0]
      rw [if_pos (by omega), if_pos (by omega), if_pos (by omega), if_pos (by omega), rd_nat a i ia, rd_nat b i ib, if_pos ((same_iff _ _).mpr e), wrap_succ i (by omega)]
    · have hz : ¬ cmpPart a[i] b[i] = 0 := fun z => e (cmpPart_zero wp wq op oq z)
      rw [if_neg hz]
      refine Ev.step (f := fun _ => some (cmpPart a[i] b[i])) (fun k => ?_) (Ev.now _)
      simp only [keys_Cmp.l0]
      rw [if_pos (by omega), if_pos (by omega), if_pos (by omega), if_pos (by omega), rd_nat a i ia, rd_nat b i ib, if_neg (fun z => e ((same_iff _ _).mp z)), compare_f, Option.bind_some]
      by_cases k0 : a[i].f0 < b[i].f0
      · rw [compareInt_lt k0, cmpPart_lt k0, if_neg (by decide)]
      · by_cases k1 : b[i].f0 < a[i].f0
        · rw [compareInt_gt k1, cmpPart_gt k1, if_neg (by decide)]
        · have hk : a[i].f0 = b[i].f0 := by omega
          rw [hk, compareInt_self, if_pos rfl, ← hk]
          rcases ok_kind op with c | c | c
          · rw [cmpPart_int c (by omega), if_pos c, compare_f]; rfl
          · obtain ⟨x1, x2, x3, x4⟩ := ok_num op c
            obtain ⟨y1, y2, y3, y4⟩ := ok_num oq (by omega)
            rw [cmpPart_num c (by omega), if_neg (by omega), if_pos c, fcmp_f _ _ wp.a2 wp.b2 x3 x4 wq.a2 wq.b2 y3 y4]; rfl
          · rw [cmpPart_text c (by omega), if_neg (by omega), if_neg (by omega)]; rfl

theorem cmp_ev (a b : List Part) (wa : ∀ p ∈ a, WF p) (wb : ∀ p ∈ b, WF p) (ha : chk a = 0) (hb : chk b = 0) : Ev (fun k => keys_Cmp.f k a b) (cmpP a b) := by
  unfold keys_Cmp.f
  obtain ⟨la, oa⟩ := chk_ok ha
  obtain ⟨lb, ob⟩ := chk_ok hb
  have := cmp_loop a b wa wb oa ob la (min a.length b.length) 0 (by omega)
  rw [mn_nat]
  simpa using this

end Go.Proofs.YtpimfioeeipnhaaDoor.Pl

/-
  What keys.read and keys.Decode come to: the one list of parts whose bytes these are, or that there is none. Condition: the text's length.
-/
namespace Go.Proofs.YtpimfioeeipnhaaDoor.Pl
open Go.Proofs.YtpimfioeeipnhaaDoor.Hand Go.Proofs.YtpimfioeeipnhaaDoor.K Go.Lib Go.RowKit Go.Proofs.YtpimfioeeipnhaaDoorW.PrintWords Go.Proofs.YtpimfioeeipnhaaDoorW.PrintMore
set_option linter.unusedVariables false
set_option linter.unusedSimpArgs false

theorem head_of (s : ByteArray) (c : UInt8) (T : List UInt8) (e : s.data.toList = c :: T) :
    ∃ h : 0 < s.size, s[0]'h = c ∧ (s.extract 1 s.size).data.toList = T ∧ s.size = T.length + 1 := by
  have hz := Lib.size_eq s
  rw [e, List.length_cons] at hz
  have h : 0 < s.size := by omega
  refine ⟨h, ?_, ?_, hz⟩
  · have : s[0]'h = s.data.toList[0]'(by rw [e]; simp) := rfl
    rw [this]
    simp [e]
  · rw [Lib.extract_data, e]
    simp only [List.drop_succ_cons, List.drop_zero]
    exact List.take_of_length_le (by omega)

theorem ext8 (s : ByteArray) (a b : List UInt8) (e : s.data.toList = a ++ b) (h : a.length = 8) (n : Nat) (hn : n = s.size) : (s.extract 8 n).data.toList = b := by
  subst hn
  have hz := Lib.size_eq s
  rw [Lib.extract_data, e]
  rw [e, List.length_append] at hz
  have : (a ++ b).drop 8 = b := by rw [List.drop_append_of_le_length (by omega), List.drop_of_length_le (by omega), List.nil_append]
  first
  | (rw [this, List.take_of_length_le (by omega)]; done)
  | (rw [List.take_of_length_le (by rw [List.length_append]; omega), this]; done)

theorem from_key (a : Int) (h0 : 0 ≤ a) (h1 : a < 18446744073709551616) (hz : a ≠ 9223372036854775808) (hn : a % 9223372036854775808 ≤ 9218868437227405312) : floats_FromKey.f (keyN a : Int) = some (a, 0) := by
  unfold floats_FromKey.f keyN
  by_cases c : a < 9223372036854775808
  · rw [if_pos c, if_neg (by omega), if_neg (by omega)]
    congr 2
    omega
  · rw [if_neg c, if_neg (by omega), if_pos (by omega), or_sign _ (by omega) (by omega)]
    congr 2
    omega

theorem from_key_inv (n : Nat) (x : Int) (hn : n < 18446744073709551616) (h : floats_FromKey.f (n : Int) = some (x, 0)) : 0 ≤ x ∧ x < 18446744073709551616 ∧ keyN x = n := by
  unfold floats_FromKey.f at h
  split at h
  · cases h
  · split at h
    · rw [or_sign _ (by omega) (by omega)] at h
      simp only [Option.some.injEq, Prod.mk.injEq, and_true] at h
      subst h
      unfold keyN
      refine ⟨by omega, by omega, ?_⟩
      rw [if_neg (by omega)]
      omega
    · simp only [Option.some.injEq, Prod.mk.injEq, and_true] at h
      subst h
      unfold keyN
      refine ⟨by omega, by omega, ?_⟩
      rw [if_pos (by omega)]
      omega

theorem w64_u64 (n : Int) (h0 : 0 ≤ n) (h1 : n < 18446744073709551616) : wrap64 (IntKind.u64.wrap (n - 9223372036854775808)) = n - 9223372036854775808 := by
  have e (m : Int) : IntKind.u64.wrap m = m % 18446744073709551616 := by simp [IntKind.wrap, IntKind.bits, IntKind.signed]
  rw [e]
  unfold wrap64
  omega

theorem nil_of (p : Part) (h : tx p = []) : p.f3 = ⟨#[]⟩ := of_toList_nil h

theorem wf_mk {a b c : Int} {t : ByteArray} (h1 : -9223372036854775808 ≤ a) (h2 : a ≤ 9223372036854775807) (h3 : -9223372036854775808 ≤ b) (h4 : b ≤ 9223372036854775807) (h5 : 0 ≤ c) (h6 : c < 18446744073709551616) : WF ⟨a, b, c, t⟩ := ⟨h1, h2, h3, h4, h5, h6⟩
theorem partB_mk0 (n b : Int) (t : ByteArray) : partB ⟨0, n, b, t⟩ = 1 :: be8 (n + 9223372036854775808).toNat := partB_int rfl
theorem partB_mk1 (n b : Int) (t : ByteArray) : partB ⟨1, n, b, t⟩ = 2 :: be8 (keyN b) := partB_num rfl
theorem partB_mk2 (n b : Int) (t : ByteArray) : partB ⟨2, n, b, t⟩ = 3 :: (esc t.data.toList ++ [0, 0]) := partB_text rfl
theorem n3 : (((3 : UInt8).toNat : Nat) : Int) - 1 = 2 := rfl
theorem n1 : (((1 : UInt8).toNat : Nat) : Int) - 1 = 0 := rfl
theorem n2 : (((2 : UInt8).toNat : Nat) : Int) - 1 = 1 := rfl

/-- What stands at a text's head is read. -/
theorem read_some (s : ByteArray) (p : Part) (R : List UInt8) (hs : s.size ≤ 140737488355328) (w : WF p) (o : okP p = true) (e : s.data.toList = partB p ++ R) :
    keys_read.f s = some (p.f0, p.f1, p.f2, p.f3, ⟨R.toArray⟩, true) := by
  unfold keys_read.f
  rcases ok_kind o with c | c | c
  · obtain ⟨z2, z3⟩ := ok_int o c
    have a1 := w.a1
    have b1 := w.b1
    rw [partB_int c, List.cons_append] at e
    obtain ⟨h, hc, ht, hz⟩ := head_of s _ _ e
    rw [List.length_append, be8_length] at hz
    have hT : (s.extract 1 s.size).size = 8 + R.length := by rw [Lib.size_eq, ht, List.length_append, be8_length]
    have hr : (s.extract 1 s.size).extract 8 (s.size - 1) = ⟨R.toArray⟩ := of_toList_eq (ext8 _ _ _ ht (be8_length _) _ (by omega))
    rw [dif_pos h, hc, if_neg (by decide), if_neg (by omega), keys_small.f, if_pos (by omega), ht, List.take_append_of_le_length (by rw [be8_length]; omega), List.take_of_length_le (by rw [be8_length]; omega), beN_be8 _ (by omega), Option.bind_some, if_pos (by rfl), hr, w64_u64 _ (by omega) (by omega), c, z2, nil_of p z3]
    have : ((p.f1 + 9223372036854775808).toNat : Int) - 9223372036854775808 = p.f1 := by omega
    rw [this]
    rfl
  · obtain ⟨z1, z2, z3, z4⟩ := ok_num o c
    have kl := keyN_lt p.f2 w.a2
    rw [partB_num c, List.cons_append] at e
    obtain ⟨h, hc, ht, hz⟩ := head_of s _ _ e
    rw [List.length_append, be8_length] at hz
    have hT : (s.extract 1 s.size).size = 8 + R.length := by rw [Lib.size_eq, ht, List.length_append, be8_length]
    have hr : (s.extract 1 s.size).extract 8 (s.size - 1) = ⟨R.toArray⟩ := of_toList_eq (ext8 _ _ _ ht (be8_length _) _ (by omega))
    rw [dif_pos h, hc, if_neg (by decide), if_neg (by omega), keys_small.f, if_pos (by omega), ht, List.take_append_of_le_length (by rw [be8_length]; omega), List.take_of_length_le (by rw [be8_length]; omega), beN_be8 _ kl, Option.bind_some, if_neg (by decide), if_pos (by rfl), from_key _ w.a2 w.b2 z3 z4, Option.bind_some, if_pos rfl, hr, c, z1, nil_of p z2]
    rfl
  · obtain ⟨z1, z2, z3⟩ := ok_text o c
    rw [partB_text c, List.cons_append, List.append_assoc] at e
    obtain ⟨h, hc, ht, hz⟩ := head_of s _ _ e
    have hT : (s.extract 1 s.size).size ≤ 140737488355328 := by rw [Lib.size_eq, ht]; omega
    have htx : txt [] (esc (tx p) ++ ([0, 0] ++ R)) = (tx p, R, true) := by
      have := txt_esc (tx p) [] R
      simpa using this
    rw [dif_pos h, hc, if_pos (by rfl), keys_text.f, if_pos hT, ht, htx, Option.bind_some, c, z1, z2]
    have : (⟨(tx p).toArray⟩ : ByteArray) = p.f3 := of_toList_eq rfl
    rw [this]
    rfl

/-- What is read stood at the head. -/
theorem read_true (s : ByteArray) (k n b : Int) (t r : ByteArray) (h : keys_read.f s = some (k, n, b, t, r, true)) :
    WF ⟨k, n, b, t⟩ ∧ s.data.toList = partB ⟨k, n, b, t⟩ ++ r.data.toList := by
  unfold keys_read.f at h
  split at h
  · rename_i h0
    obtain ⟨c, T, e⟩ : ∃ c T, s.data.toList = c :: T := by
      cases hl : s.data.toList with
      | nil => rw [Lib.size_eq, hl] at h0; simp at h0
      | cons c T => exact ⟨c, T, rfl⟩
    obtain ⟨_, hc, ht, hz⟩ := head_of s c T e
    rw [hc] at h
    have hT : (s.extract 1 s.size).size = T.length := by rw [Lib.size_eq, ht]
    split at h
    · rename_i h3
      have c3 : c = 3 := UInt8.toNat_inj.mp h3
      subst c3
      unfold keys_text.f at h
      split at h
      · rw [ht] at h
        simp only [Option.bind_some, Option.some.injEq, Prod.mk.injEq] at h
        obtain ⟨rfl, rfl, rfl, rfl, rfl, h5⟩ := h
        have ex : txt [] T = ((txt [] T).1, (txt [] T).2.1, true) := by rw [← h5]
        obtain ⟨u, hu, hT2⟩ := txt_inv T [] _ _ ex
        rw [List.nil_append] at hu
        rw [n3]
        refine ⟨wf_mk (by omega) (by omega) (by omega) (by omega) (by omega) (by omega), ?_⟩
        rw [partB_mk2, e]
        show 3 :: T = 3 :: (esc (txt [] T).1 ++ [0, 0]) ++ (txt [] T).2.1
        rw [List.cons_append, List.append_assoc, hu]
        congr 1
      · cases h
    · split at h
      · simp at h
      · rename_i h3 h9
        have h8 : 8 ≤ T.length := by omega
        have hlt := beN_lt 8 (T.take 8) (by rw [List.length_take]; omega)
        have p8 : (256 : Nat) ^ 8 = 18446744073709551616 := by decide
        have hb8 : be8 (beN (T.take 8)) = T.take 8 := be8_beN _ (by rw [List.length_take]; omega)
        have hr : ((s.extract 1 s.size).extract 8 (s.size - 1)).data.toList = T.drop 8 := ext8 _ (T.take 8) (T.drop 8) (by rw [ht, List.take_append_drop]) (by rw [List.length_take]; omega) _ (by omega)
        unfold keys_small.f at h
        rw [if_pos (by omega), ht, Option.bind_some] at h
        split at h
        · rename_i h1
          have c1 : c = 1 := UInt8.toNat_inj.mp h1
          subst c1
          simp only [Option.some.injEq, Prod.mk.injEq, and_true] at h
          obtain ⟨rfl, rfl, rfl, rfl, rfl⟩ := h
          rw [w64_u64 _ (by omega) (by omega)]
          rw [n1]
          refine ⟨wf_mk (by omega) (by omega) (by omega) (by omega) (by omega) (by omega), ?_⟩
          rw [partB_mk0, hr, e]
          have : ((beN (T.take 8) : Int) - 9223372036854775808 + 9223372036854775808).toNat = beN (T.take 8) := by omega
          show 1 :: T = 1 :: be8 (((beN (T.take 8) : Int) - 9223372036854775808) + 9223372036854775808).toNat ++ T.drop 8
          rw [this, hb8, List.cons_append, List.take_append_drop]
        · split at h
          · rename_i h1 h2
            have c2 : c = 2 := UInt8.toNat_inj.mp h2
            subst c2
            cases hx : floats_FromKey.f (beN (T.take 8) : Int) with
            | none => rw [hx] at h; cases h
            | some x =>
              rw [hx, Option.bind_some] at h
              split at h
              · rename_i hx0
                obtain ⟨x1, x2⟩ := x
                subst hx0
                obtain ⟨f0, f1, f2⟩ := from_key_inv _ _ (by omega) hx
                simp only [Option.some.injEq, Prod.mk.injEq, and_true] at h
                obtain ⟨rfl, rfl, rfl, rfl, rfl⟩ := h
                rw [n2]
                refine ⟨wf_mk (by omega) (by omega) (by omega) (by omega) f0 f1, ?_⟩
                rw [partB_mk1, hr, e]
                show 2 :: T = 2 :: be8 (keyN x1) ++ T.drop 8
                rw [f2, hb8, List.cons_append, List.take_append_drop]
              · simp at h
          · simp at h
  · cases h

theorem read_tot (s : ByteArray) (hs : s.size ≤ 140737488355328) (h0 : 0 < s.size) : ∃ k n b t r ok, keys_read.f s = some (k, n, b, t, r, ok) := by
  unfold keys_read.f
  rw [dif_pos h0]
  have hT : (s.extract 1 s.size).size = s.size - 1 := by
    rw [ByteArray.size_extract]; omega
  split
  · unfold keys_text.f
    rw [if_pos (by omega), Option.bind_some]
    exact ⟨_, _, _, _, _, _, rfl⟩
  · split
    · exact ⟨_, _, _, _, _, _, rfl⟩
    · unfold keys_small.f
      rw [if_pos (by omega), Option.bind_some]
      split
      · exact ⟨_, _, _, _, _, _, rfl⟩
      · split
        · have : ∃ x, floats_FromKey.f (beN ((s.extract 1 s.size).data.toList.take 8) : Int) = some x := by
            unfold floats_FromKey.f
            split
            · exact ⟨_, rfl⟩
            · split <;> exact ⟨_, rfl⟩
          obtain ⟨x, hx⟩ := this
          rw [hx, Option.bind_some]
          split <;> exact ⟨_, _, _, _, _, _, rfl⟩
        · exact ⟨_, _, _, _, _, _, rfl⟩

/-! decoding -/
def fin (ps : List Part) : List Part × Int := if chk ps = 0 then (ps, 0) else ([], 31)
def Whole (l : List UInt8) (qs : List Part) : Prop := (∀ q ∈ qs, WF q) ∧ (∀ q ∈ qs, okP q = true) ∧ l = enc qs
def IsDec (acc : List Part) (l : List UInt8) (r : List Part × Int) : Prop :=
  (∃ qs, Whole l qs ∧ r = fin (acc ++ qs)) ∨ (r = ([], 31) ∧ ¬ ∃ qs, Whole l qs)

theorem whole_inj {l : List UInt8} {a b : List Part} (h : Whole l a) (k : Whole l b) : a = b := by
  obtain ⟨wa, oa, ea⟩ := h
  obtain ⟨wb, ob, eb⟩ := k
  have := cmp_enc a b wa wb oa ob
  rw [← ea, ← eb, cmp_self] at this
  exact cmpP_zero wa wb oa ob this.symm

theorem isDec_inj {l : List UInt8} {r r' : List Part × Int} (h : IsDec [] l r) (k : IsDec [] l r') : r = r' := by
  rcases h with ⟨a, ha, rfl⟩ | ⟨rfl, ha⟩
  · rcases k with ⟨b, hb, rfl⟩ | ⟨rfl, hb⟩
    · rw [whole_inj ha hb]
    · exact absurd ⟨a, ha⟩ hb
  · rcases k with ⟨b, hb, rfl⟩ | ⟨rfl, hb⟩
    · exact absurd ⟨b, hb⟩ ha
    · rfl

theorem whole_cons {l : List UInt8} {p : Part} {R : List UInt8} {qs : List Part} (w : WF p) (o : okP p = true) (e : l = partB p ++ R) (h : Whole R qs) : Whole l (p :: qs) := by
  obtain ⟨wq, oq, eq⟩ := h
  refine ⟨fun q hq => ?_, fun q hq => ?_, by rw [e, eq]; rfl⟩
  · rcases List.mem_cons.mp hq with rfl | h
    · exact w
    · exact wq q h
  · rcases List.mem_cons.mp hq with rfl | h
    · exact o
    · exact oq q h

theorem whole_head {l : List UInt8} {qs : List Part} (h : Whole l qs) (hl : l ≠ []) : ∃ q rs, qs = q :: rs ∧ WF q ∧ okP q = true ∧ l = partB q ++ enc rs ∧ Whole (enc rs) rs := by
  obtain ⟨wq, oq, eq⟩ := h
  cases qs with
  | nil => exact absurd eq hl
  | cons q rs => exact ⟨q, rs, rfl, wq q (by simp), oq q (by simp), eq, fun x hx => wq x (by simp [hx]), fun x hx => oq x (by simp [hx]), rfl⟩

theorem fin_bad {acc qs : List Part} {p : Part} (h : ¬ okP p = true) : fin (acc ++ [p] ++ qs) = ([], 31) := by
  unfold fin
  rw [if_neg (fun z => h ((chk_ok z).2 p (by simp)))]

theorem decode_loop : ∀ (n : Nat) (s : ByteArray) (acc : List Part), s.size ≤ n → s.size ≤ 1048576 → acc.length + s.size ≤ 3518437208000 → (∀ p ∈ acc, WF p) →
    ∃ r, Ev (fun k => keys_Decode.l0 k s acc) r ∧ IsDec acc s.data.toList r
  | n, s, acc, hn, hs, ha, wa => by
    by_cases h0 : s.data.toList = []
    · refine ⟨fin acc, ?_, .inl ⟨[], ⟨by simp, by simp, h0⟩, by rw [List.append_nil]⟩⟩
      refine Ev.step (f := fun k => (keys_Check.f k acc).bind fun t163 => if t163 = 0 then some (acc, 0) else some ([], 31)) (fun k => by simp only [keys_Decode.l0]; rw [if_pos (by rw [Lib.toList_data]; exact h0)]) (Ev.bind (check_ev acc wa) ?_)
      unfold fin
      by_cases c : chk acc = 0
      · simp only [if_pos c]; exact Ev.now _
      · simp only [if_neg c]; exact Ev.now _
    · have hz := Lib.size_eq s
      have hpos : 0 < s.size := by
        cases hl : s.data.toList with
        | nil => exact absurd hl h0
        | cons c T => rw [hl, List.length_cons] at hz; omega
      obtain ⟨k, nn, b, t, r, ok, hr⟩ := read_tot s (by omega) hpos
      have hstep : ∀ j, keys_Decode.l0 (j + 1) s acc = if ok = true then (if acc.length < 3518437208883 then keys_Decode.l0 j r (acc ++ [⟨k, nn, b, t⟩]) else none) else some ([], 31) := fun j => by
        simp only [keys_Decode.l0]
        rw [if_neg (by rw [Lib.toList_data]; exact h0), hr, Option.bind_some]
      cases ok with
      | true =>
        obtain ⟨wp, ep⟩ := read_true s k nn b t r hr
        have hrs := Lib.size_eq r
        have hpl : 1 ≤ (partB ⟨k, nn, b, t⟩).length := by
          cases hb : partB ⟨k, nn, b, t⟩ with
          | nil => exact absurd hb (partB_ne _)
          | cons _ _ => simp
        rw [ep, List.length_append] at hz
        match n, hn with
        | 0, hn => omega
        | n + 1, hn =>
          obtain ⟨x, hx, hd⟩ := decode_loop n r (acc ++ [⟨k, nn, b, t⟩]) (by omega) (by omega) (by rw [List.length_append, List.length_singleton]; omega) (fun p hp => by
            rcases List.mem_append.mp hp with h | h
            · exact wa p h
            · rw [List.mem_singleton.mp h]; exact wp)
          refine ⟨x, Ev.step (fun j => by rw [hstep j, if_pos rfl, if_pos (by omega)]) hx, ?_⟩
          have same : ∀ q rs, WF q → okP q = true → s.data.toList = partB q ++ enc rs → q = ⟨k, nn, b, t⟩ ∧ r.data.toList = enc rs := fun q rs wq oq eq => by
            have := read_some s q (enc rs) (by omega) wq oq eq
            rw [hr] at this
            simp only [Option.some.injEq, Prod.mk.injEq, and_true] at this
            obtain ⟨rfl, rfl, rfl, rfl, rfl⟩ := this
            exact ⟨rfl, rfl⟩
          by_cases op : okP ⟨k, nn, b, t⟩ = true
          · rcases hd with ⟨qs, hq, rfl⟩ | ⟨rfl, hq⟩
            · exact .inl ⟨⟨k, nn, b, t⟩ :: qs, whole_cons wp op ep hq, by rw [List.append_assoc]; rfl⟩
            · refine .inr ⟨rfl, fun ⟨qs, hw⟩ => hq ?_⟩
              obtain ⟨q, rs, rfl, wq, oq, eq, hw2⟩ := whole_head hw h0
              rw [(same q rs wq oq eq).2]
              exact ⟨rs, hw2⟩
          · refine .inr ⟨?_, fun ⟨qs, hw⟩ => ?_⟩
            · rcases hd with ⟨qs, hq, rfl⟩ | ⟨rfl, hq⟩
              · exact fin_bad op
              · rfl
            · obtain ⟨q, rs, rfl, wq, oq, eq, hw2⟩ := whole_head hw h0
              rw [(same q rs wq oq eq).1] at oq
              exact op oq
      | false =>
        refine ⟨([], 31), Ev.step (f := fun _ => some ([], 31)) (fun j => by rw [hstep j]; rfl) (Ev.now _), .inr ⟨rfl, fun ⟨qs, hw⟩ => ?_⟩⟩
        obtain ⟨q, rs, rfl, wq, oq, eq, hw2⟩ := whole_head hw h0
        have := read_some s q (enc rs) (by omega) wq oq eq
        rw [hr] at this
        simp at this

theorem decode_ev (s : ByteArray) (hs : s.size ≤ 1048576) : ∃ r, Ev (fun k => keys_Decode.f k s) r ∧ IsDec [] s.data.toList r := by
  unfold keys_Decode.f
  exact decode_loop s.size s [] (Nat.le_refl _) hs (by simp; omega) (by simp)

end Go.Proofs.YtpimfioeeipnhaaDoor.Pl

/-
  What the reference's Check comes to: the same plain function of lists. Condition: the list's length.
-/
namespace Go.Proofs.YtpimfioeeipnhaaDoor.Pl
open Go.Proofs.YtpimfioeeipnhaaDoor.Hand Go.Proofs.YtpimfioeeipnhaaDoor.K Go.Lib Go.RowKit Go.Proofs.YtpimfioeeipnhaaDoorW.PrintWords Go.Proofs.YtpimfioeeipnhaaDoorW.PrintMore
set_option linter.unusedVariables false
set_option linter.unusedSimpArgs false

theorem kindX_eq (a : Int) (h0 : 0 ≤ a) (h1 : a < 18446744073709551616) : kindX a = (a % 9223372036854775808) / 4503599627370496 := by
  unfold kindX
  rw [Int.tmod_eq_emod_of_nonneg h0, Int.tdiv_eq_ediv_of_nonneg (by omega), u64_in _ (by omega) (by omega)]
theorem kindF_eq (a : Int) (h0 : 0 ≤ a) : kindF a = a % 4503599627370496 := by
  unfold kindF
  rw [Int.tmod_eq_emod_of_nonneg h0]

theorem rkind (a : Int) (h0 : 0 ≤ a) (h1 : a < 18446744073709551616) : ∃ k, rhizomeref02_Kind.f a = some k ∧ (k = 4 ↔ 9218868437227405312 < a % 9223372036854775808) := by
  unfold rhizomeref02_Kind.f
  rw [kindX_eq a h0 h1, kindF_eq a h0]
  refine ⟨_, rfl, ?_⟩
  split
  · split
    · exact ⟨fun _ => by omega, fun _ => rfl⟩
    · exact ⟨fun z => (by cases z), fun z => by omega⟩
  · split
    · exact ⟨fun z => (by cases z), fun z => by omega⟩
    · split
      · exact ⟨fun z => (by cases z), fun z => by omega⟩
      · exact ⟨fun z => (by cases z), fun z => by omega⟩

theorem rone_ok (p : Part) (w : WF p) : rhizomeref03_one.f p.f0 p.f1 p.f2 p.f3 = some (okP p) := by
  obtain ⟨k, hk, h4⟩ := rkind p.f2 w.a2 w.b2
  unfold rhizomeref03_one.f okP
  rw [toList_tx, hk, Option.getD_some]
  congr 1
  by_cases c0 : p.f0 = 0
  · rw [if_pos c0, if_pos c0]
  rw [if_neg c0, if_neg c0]
  by_cases c1 : p.f0 = 1
  · rw [if_pos c1, if_pos c1]
    by_cases e : k = 4
    · have := h4.mp e
      rw [if_pos e, decide_eq_false (by omega)]; simp
    · have f : p.f2 % 9223372036854775808 ≤ 9218868437227405312 := by
        have : ¬ 9218868437227405312 < p.f2 % 9223372036854775808 := fun z => e (h4.mpr z)
        omega
      rw [if_neg e, decide_eq_true f, Bool.and_true]
      by_cases s : p.f2 = 9223372036854775808
      · rw [if_pos s, s]; simp
      · rw [if_neg s, bne_iff_ne.mpr s, Bool.and_true]
  rw [if_neg c1, if_neg c1]
  by_cases c2 : p.f0 = 2
  · rw [if_pos c2, if_pos c2]
    by_cases s : 255 < p.f3.size
    · rw [if_pos s, decide_eq_false (by omega), Bool.and_false]
    · rw [if_neg s, decide_eq_true (by omega), Bool.and_true]
  · rw [if_neg c2, if_neg c2]

theorem rcheck_loop (l : List Part) (w : ∀ p ∈ l, WF p) (hl : l.length ≤ 4611686018427387904) : ∀ (d i : Nat), i + d = l.length →
    Ev (fun k => rhizomeref03_Check.l0 k l (i : Int)) (if (l.drop i).all okP then (if 16 < l.length then 30 else 0) else 30)
  | 0, i, h => by
    have : l.drop i = [] := by rw [List.drop_eq_nil_iff]; omega
    rw [this]
    refine Ev.step (f := fun _ => if 16 < l.length then some 30 else some 0) (fun k => ?_) ?_
    · simp only [rhizomeref03_Check.l0]; rw [if_neg (by omega)]
      by_cases c : 16 < l.length
      · rw [if_pos c, if_pos (by omega)]
      · rw [if_neg c, if_neg (by omega)]
    · rw [List.all_nil, if_pos rfl]
      by_cases c : 16 < l.length
      · simp only [if_pos c]; exact Ev.now _
      · simp only [if_neg c]; exact Ev.now _
  | d + 1, i, h => by
    have hi : i < l.length := by omega
    have e : l.drop i = l[i] :: l.drop (i + 1) := List.drop_eq_getElem_cons hi
    have wi := w _ (List.getElem_mem hi)
    have ih := rcheck_loop l w hl d (i + 1) (by omega)
    rw [e, List.all_cons]
    refine Ev.step (f := fun k => if okP l[i] = true then rhizomeref03_Check.l0 k l ((i + 1 : Nat) : Int) else some 30) (fun k => ?_) ?_
    · simp only [rhizomeref03_Check.l0]
      rw [if_pos (by omega), if_pos (by omega), rd_nat l i hi, rone_ok _ wi, Option.bind_some, wrap_succ i (by omega)]
    · by_cases c : okP l[i] = true
      · simp only [c, if_true, Bool.true_and]; exact ih
      · have c' := Bool.eq_false_iff.mpr c
        simp only [c', Bool.false_and, if_false, Bool.false_eq_true]; exact Ev.now _

theorem rcheck_ev (l : List Part) (w : ∀ p ∈ l, WF p) (hl : l.length ≤ 4611686018427387904) : Ev (fun k => rhizomeref03_Check.f k l) (chk l) := by
  unfold rhizomeref03_Check.f chk
  have := rcheck_loop l w hl l.length 0 (by omega)
  rw [List.drop_zero] at this
  by_cases h : 16 < l.length
  · rw [if_pos h]
    rw [if_pos h, ite_self] at this
    exact this
  · rw [if_neg h]
    rw [if_neg h] at this
    exact this

theorem bt_nat (s : ByteArray) (i : Nat) (h : i < s.data.toList.length) : bt s (i : Int) = (s.data.toList[i].toNat : Int) := by
  have h' : i < s.size := by rw [Lib.size_eq]; exact h
  have := bt_at s (i : Int) (by simpa using h')
  rw [← this]
  rfl

end Go.Proofs.YtpimfioeeipnhaaDoor.Pl

/-
  What the reference's Check and Encode come to: the same plain functions of lists. Condition: the list's length.
-/
namespace Go.Proofs.YtpimfioeeipnhaaDoor.Pl
open Go.Proofs.YtpimfioeeipnhaaDoor.Hand Go.Proofs.YtpimfioeeipnhaaDoor.K Go.Lib Go.RowKit Go.Proofs.YtpimfioeeipnhaaDoorW.PrintWords Go.Proofs.YtpimfioeeipnhaaDoorW.PrintMore
set_option linter.unusedVariables false
set_option linter.unusedSimpArgs false

theorem digs_snoc (n : Nat) : ∀ j, digs (j + 1) n = digs j (n / 256) ++ [UInt8.ofNat n]
  | 0 => by simp [digs]
  | j + 1 => by
    rw [digs, digs_snoc n j, digs]
    have : n / 256 ^ (j + 1) = n / 256 / 256 ^ j := by rw [Nat.pow_succ, Nat.mul_comm, Nat.div_div_eq_div_mul]
    rw [this]
    rfl

theorem eight_loop : ∀ (j n : Nat) (tl : List UInt8), n < 18446744073709551616 → j ≤ 8 →
    Ev (fun k => rhizomeref03_eight.l0 k (n : Int) (nums (List.replicate j 0 ++ tl)) ((j : Int) - 1)) ⟨(digs j n ++ tl).toArray⟩
  | 0, n, tl, hn, _ => by
    refine Ev.step (f := fun _ => some (strOfNums (nums tl))) (fun k => ?_) (by rw [strOf_nums]; exact Ev.now _)
    simp only [rhizomeref03_eight.l0]
    rw [if_neg (by omega)]
    rfl
  | j + 1, n, tl, hn, hj => by
    have ih := eight_loop j (n / 256) (UInt8.ofNat n :: tl) (by omega) (by omega)
    have ed : digs (j + 1) n ++ tl = digs j (n / 256) ++ UInt8.ofNat n :: tl := by rw [digs_snoc, List.append_assoc]; rfl
    rw [ed]
    refine Ev.step (f := fun k => rhizomeref03_eight.l0 k ((n / 256 : Nat) : Int) (nums (List.replicate j 0 ++ UInt8.ofNat n :: tl)) ((j : Int) - 1)) (fun k => ?_) ih
    simp only [rhizomeref03_eight.l0]
    have e1 : (((j + 1 : Nat) : Int) - 1) = (j : Int) := by omega
    have e3 : wrap64 ((j : Int) - 1) = (j : Int) - 1 := by unfold wrap64; omega
    have hlen : (nums (List.replicate (j + 1) 0 ++ tl)).length = j + 1 + tl.length := by rw [nums_length, List.length_append, List.length_replicate]
    have e4 : IntKind.u64.wrap (Int.tdiv (n : Int) 256) = ((n / 256 : Nat) : Int) := by
      rw [Int.tdiv_eq_ediv_of_nonneg (by omega), u64_in _ (by omega) (by omega)]; omega
    have e5 : (Int.tmod (n : Int) 256) % 256 = ((UInt8.ofNat n).toNat : Int) := by
      rw [byte_num, Int.tmod_eq_emod_of_nonneg (by omega)]; omega
    have e6 : (nums (List.replicate (j + 1) 0 ++ tl)).set j ((UInt8.ofNat n).toNat : Int) = nums (List.replicate j 0 ++ UInt8.ofNat n :: tl) := by
      rw [List.replicate_succ', List.append_assoc, nums_append, nums_append]
      rw [List.set_append_right _ _ (by rw [nums_length, List.length_replicate]; omega)]
      rw [nums_length, List.length_replicate, Nat.sub_self, nums_append (List.replicate j 0) (UInt8.ofNat n :: tl)]
      rfl
    rw [e1, if_pos (by omega), if_pos (by omega), if_pos (by rw [hlen]; omega), e3, e4, e5, Int.toNat_natCast, e6]

theorem eight_f (n : Nat) (h : n < 18446744073709551616) : Ev (fun k => rhizomeref03_eight.f k (n : Int)) ⟨(be8 n).toArray⟩ := by
  unfold rhizomeref03_eight.f
  simp only [show (8 : Nat) ≤ 281474976710656 from by omega, show (8 : Int) ≤ 281474976710656 from by omega, if_true]
  have := eight_loop 8 n [] h (by omega)
  rw [List.append_nil, List.append_nil] at this
  exact this

theorem rkey_f (a : Int) (h0 : 0 ≤ a) (h1 : a < 18446744073709551616) (hn : a % 9223372036854775808 ≤ 9218868437227405312) : rhizomeref02_Key.f a = some ((keyN a : Int), 0) := by
  obtain ⟨k, hk, h4⟩ := rkind a h0 h1
  have : ¬ k = 4 := fun z => by have := h4.mp z; omega
  unfold rhizomeref02_Key.f rhizomeref02_Size.f keyN
  rw [hk, Option.bind_some, if_neg this, Int.tmod_eq_emod_of_nonneg h0]
  by_cases c : a < 9223372036854775808
  · rw [if_neg (by omega), if_pos c, Option.bind_some, u64_in _ (by omega) (by omega)]
    congr 2
    omega
  · rw [if_pos (by omega), if_neg c, Option.bind_some, u64_in _ (by omega) (by omega)]
    congr 2
    omega

theorem bytes_loop (s : ByteArray) (x y z : Int) (hs : s.size ≤ 255) : ∀ (d i : Nat) (acc : List UInt8), i + d = s.data.toList.length → acc.length ≤ 2 * i + 1 →
    Ev (fun k => rhizomeref03_bytes.l0 k (nums acc) (i : Int) x y z s) ⟨(acc ++ (esc (s.data.toList.drop i) ++ [0, 0])).toArray⟩
  | 0, i, acc, h, ha => by
    have hz := Lib.size_eq s
    have : s.data.toList.drop i = [] := by rw [List.drop_eq_nil_iff]; omega
    rw [this, esc, List.nil_append]
    refine Ev.step (f := fun _ => some (⟨(acc ++ [0, 0]).toArray⟩ : ByteArray)) (fun k => ?_) (Ev.now _)
    have e : (⟨acc.toArray⟩ : ByteArray).size = acc.length := by rw [Lib.size_eq]
    simp only [rhizomeref03_bytes.l0]
    rw [if_neg (by omega), strOf_nums, e, if_pos (by omega)]
    congr 1
  | d + 1, i, acc, h, ha => by
    have hz := Lib.size_eq s
    have hi : i < s.data.toList.length := by omega
    have e : s.data.toList.drop i = s.data.toList[i] :: s.data.toList.drop (i + 1) := List.drop_eq_getElem_cons hi
    have hb := bt_nat s i hi
    have hw := wrap_succ i (by omega)
    rw [e]
    generalize s.data.toList[i] = c at *
    by_cases hc : c = 0
    · subst hc
      have ih := bytes_loop s x y z hs d (i + 1) (acc ++ [0, 255]) (by omega) (by rw [List.length_append]; simp; omega)
      rw [esc_zero]
      have ea : acc ++ (0 :: 255 :: esc (s.data.toList.drop (i + 1)) ++ [0, 0]) = acc ++ [0, 255] ++ (esc (s.data.toList.drop (i + 1)) ++ [0, 0]) := by rw [List.append_assoc]; rfl
      rw [ea]
      refine Ev.step (f := fun k => rhizomeref03_bytes.l0 k (nums (acc ++ [0, 255])) ((i + 1 : Nat) : Int) x y z s) (fun k => ?_) ih
      simp only [rhizomeref03_bytes.l0]
      rw [if_pos (by omega), if_pos (by omega), if_pos (by rw [nums_length]; omega), Option.bind_some, hb, hw, if_pos (by rfl), if_pos (by rw [List.length_append, nums_length, List.length_singleton]; omega), nums_append, List.append_assoc]
      rfl
    · have ih := bytes_loop s x y z hs d (i + 1) (acc ++ [c]) (by omega) (by rw [List.length_append]; simp; omega)
      rw [esc_ne hc]
      have ea : acc ++ (c :: esc (s.data.toList.drop (i + 1)) ++ [0, 0]) = acc ++ [c] ++ (esc (s.data.toList.drop (i + 1)) ++ [0, 0]) := by rw [List.append_assoc]; rfl
      rw [ea]
      have hc' : ¬ (c.toNat : Int) = 0 := fun z => hc (UInt8.toNat_inj.mp (by show c.toNat = 0; omega))
      refine Ev.step (f := fun k => rhizomeref03_bytes.l0 k (nums (acc ++ [c])) ((i + 1 : Nat) : Int) x y z s) (fun k => ?_) ih
      simp only [rhizomeref03_bytes.l0]
      rw [if_pos (by omega), if_pos (by omega), if_pos (by rw [nums_length]; omega), Option.bind_some, hb, hw, if_neg hc', nums_append]
      rfl

theorem rbytes_f (p : Part) (w : WF p) (o : okP p = true) : Ev (fun k => rhizomeref03_bytes.f k p.f0 p.f1 p.f2 p.f3) ⟨(partB p).toArray⟩ := by
  unfold rhizomeref03_bytes.f
  have e8 : ∀ (c : UInt8) (n : Nat), (⟨#[c]⟩ : ByteArray) ++ (⟨(be8 n).toArray⟩ : ByteArray) = ⟨(c :: be8 n).toArray⟩ := fun c n => by
    refine of_toList_eq ?_
    rw [ByteArray.data_append, Array.toList_append]
    rfl
  have s8 : ∀ n : Nat, (⟨(be8 n).toArray⟩ : ByteArray).size = 8 := fun n => by rw [Lib.size_eq]; rfl
  rcases ok_kind o with c | c | c
  · have hb : partB p = 1 :: be8 (p.f1 + 9223372036854775808).toNat := by unfold partB; rw [if_pos c]
    have := w.a1
    have := w.b1
    have hn : IntKind.u64.wrap (9223372036854775808 + IntKind.u64.wrap p.f1) = (((p.f1 + 9223372036854775808).toNat : Nat) : Int) := by
      have e (n : Int) : IntKind.u64.wrap n = n % 18446744073709551616 := by simp [IntKind.wrap, IntKind.bits, IntKind.signed]
      rw [e, e]
      omega
    simp only [if_pos c, hn]
    refine Ev.bind (eight_f _ (by omega)) ?_
    simp only [s8, e8, hb, show 1 + 8 ≤ 9223372036854775807 from by omega, if_true]
    exact Ev.now _
  · obtain ⟨z1, z2, z3, z4⟩ := ok_num o c
    have hb : partB p = 2 :: be8 (keyN p.f2) := by unfold partB; rw [if_neg (by omega), if_pos c]
    have hk := keyN_lt p.f2 w.a2
    simp only [if_neg (show ¬ p.f0 = 0 by omega), if_pos c, rkey_f _ w.a2 w.b2 z4, Option.bind_some]
    refine Ev.bind (eight_f _ hk) ?_
    simp only [s8, e8, hb, show 1 + 8 ≤ 9223372036854775807 from by omega, if_true]
    exact Ev.now _
  · obtain ⟨z1, z2, z3⟩ := ok_text o c
    have hb : partB p = 3 :: (esc (tx p) ++ [0, 0]) := by unfold partB; rw [if_neg (by omega), if_neg (by omega)]
    simp only [if_neg (show ¬ p.f0 = 0 by omega), if_neg (show ¬ p.f0 = 1 by omega)]
    have := bytes_loop p.f3 p.f0 p.f1 p.f2 z3 p.f3.data.toList.length 0 [3] (by omega) (by simp)
    rw [List.drop_zero] at this
    rw [hb]
    exact this

theorem rencode_loop (l : List Part) (w : ∀ p ∈ l, WF p) (hl : l.length ≤ 16) (ho : ∀ p ∈ l, okP p = true) : ∀ (d i : Nat) (acc : List UInt8), i + d = l.length → acc.length ≤ 600 * i →
    Ev (fun k => rhizomeref03_Encode.l0 k l ⟨acc.toArray⟩ (i : Int)) (⟨(acc ++ enc (l.drop i)).toArray⟩, 0)
  | 0, i, acc, h, ha => by
    have : l.drop i = [] := by rw [List.drop_eq_nil_iff]; omega
    rw [this]
    exact Ev.step (f := fun _ => some ((⟨acc.toArray⟩ : ByteArray), 0)) (fun k => by simp only [rhizomeref03_Encode.l0]; rw [if_neg (by omega)]) (by simpa [enc] using Ev.now _)
  | d + 1, i, acc, h, ha => by
    have hi : i < l.length := by omega
    have e : l.drop i = l[i] :: l.drop (i + 1) := List.drop_eq_getElem_cons hi
    have wi := w _ (List.getElem_mem hi)
    have oi := ho _ (List.getElem_mem hi)
    have pl := partB_len oi
    have ih := rencode_loop l w hl ho d (i + 1) (acc ++ partB l[i]) (by omega) (by rw [List.length_append]; omega)
    have eN : enc (l.drop i) = partB l[i] ++ enc (l.drop (i + 1)) := by rw [e]; rfl
    rw [eN, ← List.append_assoc]
    have s1 : (⟨acc.toArray⟩ : ByteArray).size = acc.length := by rw [Lib.size_eq]
    have s2 : (⟨(partB l[i]).toArray⟩ : ByteArray).size = (partB l[i]).length := by rw [Lib.size_eq]
    have ea : (⟨acc.toArray⟩ : ByteArray) ++ (⟨(partB l[i]).toArray⟩ : ByteArray) = ⟨(acc ++ partB l[i]).toArray⟩ := by
      refine of_toList_eq ?_
      rw [ByteArray.data_append, Array.toList_append]
    refine Ev.step (f := fun k => (rhizomeref03_bytes.f k l[i].f0 l[i].f1 l[i].f2 l[i].f3).bind fun t => if (⟨acc.toArray⟩ : ByteArray).size + t.size ≤ 9223372036854775807 then rhizomeref03_Encode.l0 k l ((⟨acc.toArray⟩ : ByteArray) ++ t) ((i + 1 : Nat) : Int) else none) (fun k => ?_) (Ev.bind (rbytes_f _ wi oi) ?_)
    · simp only [rhizomeref03_Encode.l0]
      rw [if_pos (by omega), if_pos (by omega), rd_nat l i hi, wrap_succ i (by omega)]
    · simp only [s1, s2, ea, show acc.length + (partB l[i]).length ≤ 9223372036854775807 from by omega, if_true]
      exact ih

theorem rencode_ev (l : List Part) (w : ∀ p ∈ l, WF p) (hl : l.length ≤ 4611686018427387904) : Ev (fun k => rhizomeref03_Encode.f k l) (encR l) := by
  unfold rhizomeref03_Encode.f encR
  refine Ev.bind (rcheck_ev l w hl) ?_
  by_cases h : chk l = 0
  · rw [if_pos h]
    simp only [h, if_true]
    obtain ⟨h1, h2⟩ := chk_ok h
    have := rencode_loop l w h1 h2 l.length 0 [] (by omega) (by simp)
    rw [List.drop_zero, List.nil_append] at this
    exact this
  · rw [if_neg h]
    simp only [h, if_false]
    exact Ev.now _

end Go.Proofs.YtpimfioeeipnhaaDoor.Pl

/-
  What the reference's Decode comes to: the one list of parts whose bytes these are, or that there is none. Condition: the text's length.
-/
namespace Go.Proofs.YtpimfioeeipnhaaDoor.Pl
open Go.Proofs.YtpimfioeeipnhaaDoor.Hand Go.Proofs.YtpimfioeeipnhaaDoor.K Go.Lib Go.RowKit Go.Proofs.YtpimfioeeipnhaaDoorW.PrintWords Go.Proofs.YtpimfioeeipnhaaDoorW.PrintMore
set_option linter.unusedVariables false
set_option linter.unusedSimpArgs false

theorem value_loop (s : ByteArray) (h8 : 8 ≤ s.data.toList.length) : ∀ (d i : Nat), i + d = 8 →
    Ev (fun k => rhizomeref03_value.l0 k s (beN (s.data.toList.take i) : Nat) (i : Int)) (beN (s.data.toList.take 8) : Nat)
  | 0, i, h => by
    obtain rfl : i = 8 := by omega
    refine Ev.step (f := fun _ => some ((beN (s.data.toList.take 8) : Nat) : Int)) (fun k => ?_) (Ev.now _)
    simp only [rhizomeref03_value.l0]
    rw [if_neg (by omega)]
  | d + 1, i, h => by
    have hz := Lib.size_eq s
    have hi : i < s.data.toList.length := by omega
    have ih := value_loop s h8 d (i + 1) (by omega)
    have hb := bt_nat s i hi
    have et : s.data.toList.take (i + 1) = s.data.toList.take i ++ [s.data.toList[i]] := (List.take_append_getElem hi).symm
    rw [et, beN_snoc] at ih
    have hlt := beN_lt i (s.data.toList.take i) (by rw [List.length_take]; omega)
    have hn' : beN (s.data.toList.take i) < 72057594037927936 := Nat.lt_of_lt_of_le hlt (by rw [show (72057594037927936 : Nat) = 256 ^ 7 from by decide]; exact Nat.pow_le_pow_right (by decide) (by omega))
    have hc := s.data.toList[i].toNat_lt
    refine Ev.step (f := fun k => rhizomeref03_value.l0 k s ((256 * beN (s.data.toList.take i) + s.data.toList[i].toNat : Nat) : Int) ((i + 1 : Nat) : Int)) (fun k => ?_) ih
    simp only [rhizomeref03_value.l0]
    rw [if_pos (by omega), if_pos (by omega), if_pos (by omega), hb, wrap_succ i (by omega), u64_in (256 * (beN (s.data.toList.take i) : Int)) (by omega) (by omega), u64_in (s.data.toList[i].toNat : Int) (by omega) (by omega), u64_in _ (by omega) (by omega)]
    congr 1

theorem value_f (s : ByteArray) (h8 : 8 ≤ s.data.toList.length) : Ev (fun k => rhizomeref03_value.f k s) (beN (s.data.toList.take 8) : Nat) := by
  unfold rhizomeref03_value.f
  exact value_loop s h8 8 0 (by omega)

theorem rfrom (n : Nat) (hn : n < 18446744073709551616) : ∃ x e, Ev (fun k => rhizomeref02_FromKey.f k (n : Int)) (x, e) ∧ 0 ≤ x ∧ x < 18446744073709551616 ∧
    ∀ a : Int, 0 ≤ a → a < 18446744073709551616 → a ≠ 9223372036854775808 → a % 9223372036854775808 ≤ 9218868437227405312 → keyN a = n → x = a := by
  unfold rhizomeref02_FromKey.f
  by_cases c : n > 18442240474082181120 ∨ n < 4503599627370496
  · refine ⟨0, 22, ?_, by omega, by omega, fun a a0 a1 az an hk => ?_⟩
    · have e : ∀ k, (if (n : Int) > 18442240474082181120 then rhizomeref02_FromKey.j0 k (n : Int) true else rhizomeref02_FromKey.j0 k (n : Int) (decide ((n : Int) < 4503599627370496))) = rhizomeref02_FromKey.j0 k (n : Int) true := fun k => by
        by_cases d : (n : Int) > 18442240474082181120
        · rw [if_pos d]
        · rw [if_neg d, decide_eq_true (by omega)]
      refine Ev.congr e ?_
      exact Ev.step (f := fun _ => some (0, 22)) (fun k => by simp [rhizomeref02_FromKey.j0]) (Ev.now _)
    · exfalso
      unfold keyN at hk
      split at hk <;> omega
  · have e : ∀ k, (if (n : Int) > 18442240474082181120 then rhizomeref02_FromKey.j0 k (n : Int) true else rhizomeref02_FromKey.j0 k (n : Int) (decide ((n : Int) < 4503599627370496))) = rhizomeref02_FromKey.j0 k (n : Int) false := fun k => by
      rw [if_neg (by omega), decide_eq_false (by omega)]
    by_cases d : n < 9223372036854775808
    · refine ⟨18446744073709551616 - (n : Int), 0, Ev.congr e (Ev.step (f := fun _ => some (18446744073709551616 - (n : Int), 0)) (fun k => ?_) (Ev.now _)), by omega, by omega, fun a a0 a1 az an hk => ?_⟩
      · simp only [rhizomeref02_FromKey.j0, Bool.false_eq_true, if_false]
        rw [if_pos (by omega), u64_in (9223372036854775808 - (n : Int)) (by omega) (by omega), u64_in _ (by omega) (by omega)]
        congr 2
        omega
      · unfold keyN at hk
        split at hk <;> omega
    · refine ⟨(n : Int) - 9223372036854775808, 0, Ev.congr e (Ev.step (f := fun _ => some ((n : Int) - 9223372036854775808, 0)) (fun k => ?_) (Ev.now _)), by omega, by omega, fun a a0 a1 az an hk => ?_⟩
      · simp only [rhizomeref02_FromKey.j0, Bool.false_eq_true, if_false]
        rw [if_neg (by omega), u64_in _ (by omega) (by omega)]
      · unfold keyN at hk
        split at hk <;> omega

section
variable (k : Nat) (s : ByteArray) (x : List Int) (i : Nat) (x0 x1 x2 : Int) (x3 : ByteArray)
theorem gs_end (h : ¬ i < s.size) : rhizomeref03_guess.l0 (k + 1) s x (i : Int) x0 x1 x2 x3 = some (x0, x1, x2, strOfNums x) := by
  simp only [rhizomeref03_guess.l0]
  rw [if_neg (by omega)]
theorem gs_last (h : i < s.size) (h2 : ¬ i + 1 < s.size) (hi : i < 4611686018427387904) (hb : bt s (i : Int) = 0) : rhizomeref03_guess.l0 (k + 1) s x (i : Int) x0 x1 x2 x3 = some (x0, x1, x2, strOfNums x) := by
  simp only [rhizomeref03_guess.l0]
  rw [wrap_succ i hi, if_pos (by omega), if_pos (by omega), if_pos hb, if_pos (by omega)]
theorem gs_mark (h : i + 1 < s.size) (hi : i < 4611686018427387900) (hb : bt s (i : Int) = 0) (hb2 : bt s ((i + 1 : Nat) : Int) = 255) (hx : x.length < 140737488355328) : rhizomeref03_guess.l0 (k + 1) s x (i : Int) x0 x1 x2 x3 = rhizomeref03_guess.l0 k s (x ++ [0]) ((i + 2 : Nat) : Int) x0 x1 x2 x3 := by
  simp only [rhizomeref03_guess.l0]
  rw [wrap_succ i (by omega), wrap_succ (i + 1) (by omega), if_pos (by omega), if_pos (by omega), if_pos hb, if_neg (by omega), if_pos (by omega), if_pos (by omega), if_pos hb2, if_pos hx]
theorem gs_stop (h : i + 1 < s.size) (hi : i < 4611686018427387900) (hb : bt s (i : Int) = 0) (hb2 : ¬ bt s ((i + 1 : Nat) : Int) = 255) : rhizomeref03_guess.l0 (k + 1) s x (i : Int) x0 x1 x2 x3 = some (x0, x1, x2, strOfNums x) := by
  simp only [rhizomeref03_guess.l0]
  rw [wrap_succ i (by omega), if_pos (by omega), if_pos (by omega), if_pos hb, if_neg (by omega), if_pos (by omega), if_pos (by omega), if_neg hb2]
theorem gs_go (h : i < s.size) (hi : i < 4611686018427387900) (hb : ¬ bt s (i : Int) = 0) (hx : x.length < 140737488355328) : rhizomeref03_guess.l0 (k + 1) s x (i : Int) x0 x1 x2 x3 = rhizomeref03_guess.l0 k s (x ++ [bt s (i : Int)]) ((i + 1 : Nat) : Int) x0 x1 x2 x3 := by
  simp only [rhizomeref03_guess.l0]
  rw [wrap_succ i (by omega), if_pos (by omega), if_pos (by omega), if_neg hb, if_pos hx]
end

theorem esc_heads {u R T : List UInt8} {c : UInt8} (h : c :: T = esc u ++ 0 :: 0 :: R) :
    (u = [] ∧ c = 0 ∧ T = 0 :: R) ∨ (∃ v, u = 0 :: v ∧ c = 0 ∧ T = 255 :: (esc v ++ 0 :: 0 :: R)) ∨ (∃ d v, u = d :: v ∧ d ≠ 0 ∧ c = d ∧ T = esc v ++ 0 :: 0 :: R) := by
  cases u with
  | nil => rw [esc, List.nil_append, List.cons.injEq] at h; exact .inl ⟨rfl, h.1, h.2⟩
  | cons d v =>
    by_cases h0 : d = 0
    · subst h0
      rw [esc_zero, List.cons_append, List.cons_append, List.cons.injEq] at h
      exact .inr (.inl ⟨v, rfl, h.1, h.2⟩)
    · rw [esc_ne h0, List.cons_append, List.cons.injEq] at h
      exact .inr (.inr ⟨d, v, rfl, h0, h.1, h.2⟩)

/-- The bytes behind a place: the byte there, and the rest. -/
theorem at_place (s : ByteArray) (i : Nat) (h : i < s.size) : ∃ c T, s.data.toList.drop i = c :: T ∧ s.data.toList.drop (i + 1) = T ∧ bt s (i : Int) = (c.toNat : Int) := by
  have h' : i < s.data.toList.length := by rw [← Lib.size_eq]; exact h
  exact ⟨_, _, List.drop_eq_getElem_cons h', rfl, bt_nat s i h'⟩

theorem guess_text (s : ByteArray) (hs : s.size ≤ 1048576) (x0 x1 x2 : Int) (x3 : ByteArray) : ∀ (n i : Nat) (acc : List UInt8), s.size - i ≤ n → i ≤ 2097152 → acc.length ≤ i →
    ∃ t : ByteArray, Ev (fun k => rhizomeref03_guess.l0 k s (nums acc) (i : Int) x0 x1 x2 x3) (x0, x1, x2, t) ∧ ∀ u R, s.data.toList.drop i = esc u ++ 0 :: 0 :: R → t = ⟨(acc ++ u).toArray⟩
  | n, i, acc, hn, hi2, ha => by
    have done : ∀ (P : Prop), P → (∀ k, rhizomeref03_guess.l0 (k + 1) s (nums acc) (i : Int) x0 x1 x2 x3 = some (x0, x1, x2, strOfNums (nums acc))) → Ev (fun k => rhizomeref03_guess.l0 k s (nums acc) (i : Int) x0 x1 x2 x3) (x0, x1, x2, ⟨acc.toArray⟩) := fun _ _ h =>
      Ev.step (f := fun _ => some (x0, x1, x2, strOfNums (nums acc))) h (by rw [strOf_nums]; exact Ev.now _)
    have hna : (nums acc).length < 140737488355328 := by rw [nums_length]; omega
    by_cases hi : i < s.size
    · obtain ⟨c, T, e, e1, hb⟩ := at_place s i hi
      match n, hn with
      | 0, hn => omega
      | n + 1, hn =>
        by_cases hc : c = 0
        · subst hc
          have hb : bt s (i : Int) = 0 := hb
          by_cases hj : i + 1 < s.size
          · obtain ⟨d, T2, f, f1, hb2⟩ := at_place s (i + 1) hj
            rw [e1] at f
            by_cases hd : d = 255
            · subst hd
              have hb2 : bt s ((i + 1 : Nat) : Int) = 255 := hb2
              obtain ⟨t, ht, hu⟩ := guess_text s hs x0 x1 x2 x3 n (i + 2) (acc ++ [0]) (by omega) (by omega) (by rw [List.length_append, List.length_singleton]; omega)
              refine ⟨t, Ev.step (fun k => by rw [gs_mark k s _ i x0 x1 x2 x3 hj (by omega) hb hb2 hna]) (by rw [nums_append] at ht; exact ht), fun u R hx => ?_⟩
              rw [e, f] at hx
              rcases esc_heads hx with ⟨_, _, z⟩ | ⟨v, rfl, _, z⟩ | ⟨d, v, rfl, d0, z, _⟩
              · cases z
              · rw [List.cons.injEq] at z
                rw [hu v R (by rw [show i + 2 = i + 1 + 1 from rfl, f1]; exact z.2), List.append_assoc]
                rfl
              · exact absurd z.symm d0
            · have hd' : ¬ bt s ((i + 1 : Nat) : Int) = 255 := fun z => hd (UInt8.toNat_inj.mp (by show d.toNat = 255; omega))
              refine ⟨⟨acc.toArray⟩, done True trivial (fun k => gs_stop k s _ i x0 x1 x2 x3 hj (by omega) hb hd'), fun u R hx => ?_⟩
              rw [e, f] at hx
              rcases esc_heads hx with ⟨rfl, _, z⟩ | ⟨v, rfl, _, z⟩ | ⟨d, v, rfl, d0, z, _⟩
              · rw [List.append_nil]
              · rw [List.cons.injEq] at z; exact absurd z.1 hd
              · exact absurd z.symm d0
          · refine ⟨⟨acc.toArray⟩, done True trivial (fun k => gs_last k s _ i x0 x1 x2 x3 hi hj (by omega) hb), fun u R hx => ?_⟩
            have : (s.data.toList.drop i).length ≤ 1 := by rw [List.length_drop, ← Lib.size_eq]; omega
            rw [hx, List.length_append, List.length_cons, List.length_cons] at this
            omega
        · have hc' : ¬ bt s (i : Int) = 0 := fun z => hc (UInt8.toNat_inj.mp (by show c.toNat = 0; omega))
          obtain ⟨t, ht, hu⟩ := guess_text s hs x0 x1 x2 x3 n (i + 1) (acc ++ [c]) (by omega) (by omega) (by rw [List.length_append, List.length_singleton]; omega)
          refine ⟨t, Ev.step (fun k => by rw [gs_go k s _ i x0 x1 x2 x3 hi (by omega) hc' hna, hb]) (by rw [nums_append] at ht; exact ht), fun u R hx => ?_⟩
          rw [e] at hx
          rcases esc_heads hx with ⟨rfl, z, _⟩ | ⟨v, rfl, z, _⟩ | ⟨d, v, rfl, d0, z, z2⟩
          · exact absurd z hc
          · exact absurd z hc
          · rw [hu v R (by rw [e1]; exact z2), List.append_assoc, z]
            rfl
    · refine ⟨⟨acc.toArray⟩, done True trivial (fun k => gs_end k s _ i x0 x1 x2 x3 hi), fun u R hx => ?_⟩
      have : (s.data.toList.drop i).length ≤ 0 := by rw [List.length_drop, ← Lib.size_eq]; omega
      rw [hx, List.length_append, List.length_cons, List.length_cons] at this
      omega

end Go.Proofs.YtpimfioeeipnhaaDoor.Pl

/-
  What the reference's Decode comes to: the one list of parts whose bytes these are, or that there is none. Condition: the text's length.
-/
namespace Go.Proofs.YtpimfioeeipnhaaDoor.Pl
open Go.Proofs.YtpimfioeeipnhaaDoor.Hand Go.Proofs.YtpimfioeeipnhaaDoor.K Go.Lib Go.RowKit Go.Proofs.YtpimfioeeipnhaaDoorW.PrintWords Go.Proofs.YtpimfioeeipnhaaDoorW.PrintMore
set_option linter.unusedVariables false
set_option linter.unusedSimpArgs false

theorem part_head {p : Part} {R T : List UInt8} {c : UInt8} (o : okP p = true) (e : c :: T = partB p ++ R) :
    (p.f0 = 0 ∧ c = 1 ∧ T = be8 (p.f1 + 9223372036854775808).toNat ++ R) ∨ (p.f0 = 1 ∧ c = 2 ∧ T = be8 (keyN p.f2) ++ R) ∨ (p.f0 = 2 ∧ c = 3 ∧ T = esc (tx p) ++ 0 :: 0 :: R) := by
  rcases ok_kind o with h | h | h
  · rw [partB_int h, List.cons_append, List.cons.injEq] at e
    exact .inl ⟨h, e.1, e.2⟩
  · rw [partB_num h, List.cons_append, List.cons.injEq] at e
    exact .inr (.inl ⟨h, e.1, e.2⟩)
  · rw [partB_text h, List.cons_append, List.cons.injEq, List.append_assoc] at e
    exact .inr (.inr ⟨h, e.1, e.2⟩)

theorem guess_rest (s : ByteArray) (K : Int) (h : ¬ ((s.size : Int) ≥ 9 ∧ K = 1)) : Ev (fun k => rhizomeref03_guess.j1 k s false K 0 0 ⟨#[]⟩) (K, 0, 0, ⟨#[]⟩) := by
  refine Ev.step (f := fun k => rhizomeref03_guess.j2 k s K 0 0 ⟨#[]⟩) (fun k => by simp only [rhizomeref03_guess.j1, Bool.false_eq_true, if_false]) ?_
  refine Ev.step (f := fun k => rhizomeref03_guess.j3 k s false K 0 0 ⟨#[]⟩) (fun k => ?_) ?_
  · simp only [rhizomeref03_guess.j2]
    by_cases c : (s.size : Int) ≥ 9
    · rw [if_pos c, beq_eq_false_iff_ne.mpr (fun z => h ⟨c, z⟩)]
    · rw [if_neg c]
  · exact Ev.step (f := fun _ => some (K, 0, 0, ⟨#[]⟩)) (fun k => by simp only [rhizomeref03_guess.j3, Bool.false_eq_true, if_false]) (Ev.now _)

theorem guess_ev (s : ByteArray) (c : UInt8) (T : List UInt8) (e : s.data.toList = c :: T) (hs : s.size ≤ 1048576) :
    ∃ g : Part, Ev (fun k => rhizomeref03_guess.f k s) (g.f0, g.f1, g.f2, g.f3) ∧ WF g ∧ ∀ p R, WF p → okP p = true → s.data.toList = partB p ++ R → g = p := by
  obtain ⟨hpos, _, ht, hz⟩ := head_of s c T e
  have hb : bt s 0 = (c.toNat : Int) := by
    have := bt_nat s 0 (by rw [e]; simp)
    rw [show ((0 : Nat) : Int) = 0 from rfl] at this
    rw [this]
    simp [e]
  have hcl := c.toNat_lt
  have hw : wrap64 ((wrap64 (c.toNat : Int)) - 1) = (c.toNat : Int) - 1 := by unfold wrap64; omega
  unfold rhizomeref03_guess.f
  simp only [hb, hw, show (0 < (s.size : Int)) from by omega, if_true]
  have noT : ∀ p : Part, okP p = true → p.f0 = 0 ∨ p.f0 = 1 → tx p = [] := fun p o h => by
    rcases h with h | h
    · exact (ok_int o h).2
    · exact (ok_num o h).2.1
  by_cases c3 : c = 3
  · subst c3
    obtain ⟨t, ht2, hu⟩ := guess_text s hs 2 0 0 ⟨#[]⟩ _ 1 [] (Nat.le_refl _) (by omega) (by simp)
    refine ⟨⟨2, 0, 0, t⟩, ?_, wf_mk (by omega) (by omega) (by omega) (by omega) (by omega) (by omega), fun p R w o ep => ?_⟩
    · simp only [n3, if_true]
      exact ht2
    · rw [e] at ep
      rcases part_head o ep with ⟨_, z, _⟩ | ⟨_, z, _⟩ | ⟨f0, _, hT⟩
      · cases z
      · cases z
      · obtain ⟨z1, z2, _⟩ := ok_text o f0
        have := hu (tx p) R (by rw [e, List.drop_succ_cons, List.drop_zero]; exact hT)
        refine part_ext f0.symm z1.symm z2.symm ?_
        show t.data.toList = tx p
        rw [this]
        rfl
  · have k2 : ¬ (c.toNat : Int) - 1 = 2 := fun z => c3 (UInt8.toNat_inj.mp (by show c.toNat = 3; omega))
    simp only [if_neg k2]
    have hT : (s.extract 1 s.size).data.toList.length = T.length := by rw [ht]
    by_cases h9 : (s.size : Int) ≥ 9
    · simp only [if_pos h9]
      have hlt := beN_lt 8 (T.take 8) (by rw [List.length_take]; omega)
      have p8 : (256 : Nat) ^ 8 = 18446744073709551616 := by decide
      have hv := value_f (s.extract 1 s.size) (by omega)
      rw [ht] at hv
      by_cases c1 : c = 1
      · subst c1
        refine ⟨⟨0, (beN (T.take 8) : Int) - 9223372036854775808, 0, ⟨#[]⟩⟩, ?_, wf_mk (by omega) (by omega) (by omega) (by omega) (by omega) (by omega), fun p R w o ep => ?_⟩
        · simp only [n1, beq_self_eq_true]
          refine Ev.step (f := fun k => (rhizomeref03_value.f k (s.extract 1 s.size)).bind fun t230 => rhizomeref03_guess.j2 k s 0 (wrap64 (IntKind.u64.wrap (t230 - 9223372036854775808))) 0 ⟨#[]⟩) (fun k => by simp only [rhizomeref03_guess.j1, if_true]; rw [if_pos (by omega)]) (Ev.bind hv ?_)
          rw [w64_u64 _ (by omega) (by omega)]
          refine Ev.step (f := fun k => rhizomeref03_guess.j3 k s false 0 ((beN (T.take 8) : Int) - 9223372036854775808) 0 ⟨#[]⟩) (fun k => by simp only [rhizomeref03_guess.j2]; rw [if_pos h9]; rfl) ?_
          exact Ev.step (f := fun _ => some (0, (beN (T.take 8) : Int) - 9223372036854775808, 0, ⟨#[]⟩)) (fun k => by simp only [rhizomeref03_guess.j3, Bool.false_eq_true, if_false]) (Ev.now _)
        · rw [e] at ep
          rcases part_head o ep with ⟨f0, _, hT⟩ | ⟨_, z, _⟩ | ⟨_, z, _⟩
          · obtain ⟨z2, z3⟩ := ok_int o f0
            have a1 := w.a1
            have b1 := w.b1
            have hN : beN (T.take 8) = (p.f1 + 9223372036854775808).toNat := by
              rw [hT, List.take_append_of_le_length (by rw [be8_length]; omega), List.take_of_length_le (by rw [be8_length]; omega), beN_be8 _ (by omega)]
            exact part_ext f0.symm (by show (beN (T.take 8) : Int) - _ = _; rw [hN]; omega) z2.symm z3.symm
          · cases z
          · cases z
      · by_cases c2 : c = 2
        · subst c2
          obtain ⟨x, er, hx, x0, x1, hxk⟩ := rfrom (beN (T.take 8)) (by omega)
          refine ⟨⟨1, 0, x, ⟨#[]⟩⟩, ?_, wf_mk (by omega) (by omega) (by omega) (by omega) x0 x1, fun p R w o ep => ?_⟩
          · simp only [n2, show ((1 : Int) == 0) = false from rfl]
            refine Ev.step (f := fun k => rhizomeref03_guess.j2 k s 1 0 0 ⟨#[]⟩) (fun k => by simp only [rhizomeref03_guess.j1, Bool.false_eq_true, if_false]) ?_
            refine Ev.step (f := fun k => rhizomeref03_guess.j3 k s true 1 0 0 ⟨#[]⟩) (fun k => by simp only [rhizomeref03_guess.j2]; rw [if_pos h9]; rfl) ?_
            refine Ev.step (f := fun k => (rhizomeref03_value.f k (s.extract 1 s.size)).bind fun t231 => (rhizomeref02_FromKey.f k t231).bind fun bt232 => some (1, 0, bt232.1, ⟨#[]⟩)) (fun k => by simp only [rhizomeref03_guess.j3, if_true]; rw [if_pos (by omega)]) (Ev.bind hv (Ev.bind hx (Ev.now _)))
          · rw [e] at ep
            rcases part_head o ep with ⟨_, z, _⟩ | ⟨f0, _, hT⟩ | ⟨_, z, _⟩
            · cases z
            · obtain ⟨z1, z2, z3, z4⟩ := ok_num o f0
              have hN : beN (T.take 8) = keyN p.f2 := by
                rw [hT, List.take_append_of_le_length (by rw [be8_length]; omega), List.take_of_length_le (by rw [be8_length]; omega), beN_be8 _ (keyN_lt _ w.a2)]
              exact part_ext f0.symm z1.symm (hxk p.f2 w.a2 w.b2 z3 z4 hN.symm) z2.symm
            · cases z
        · have k0 : ((c.toNat : Int) - 1 == 0) = false := beq_eq_false_iff_ne.mpr fun z => c1 (UInt8.toNat_inj.mp (by show c.toNat = 1; omega))
          have k1 : ¬ (c.toNat : Int) - 1 = 1 := fun z => c2 (UInt8.toNat_inj.mp (by show c.toNat = 2; omega))
          refine ⟨⟨(c.toNat : Int) - 1, 0, 0, ⟨#[]⟩⟩, ?_, wf_mk (by omega) (by omega) (by omega) (by omega) (by omega) (by omega), fun p R w o ep => ?_⟩
          · rw [k0]
            exact guess_rest s _ (fun z => k1 z.2)
          · rw [e] at ep
            rcases part_head o ep with ⟨_, z, _⟩ | ⟨_, z, _⟩ | ⟨_, z, _⟩
            · exact absurd z c1
            · exact absurd z c2
            · exact absurd z c3
    · simp only [if_neg h9]
      refine ⟨⟨(c.toNat : Int) - 1, 0, 0, ⟨#[]⟩⟩, guess_rest s _ (fun z => h9 z.1), wf_mk (by omega) (by omega) (by omega) (by omega) (by omega) (by omega), fun p R w o ep => ?_⟩
      rw [e] at ep
      rcases part_head o ep with ⟨_, _, hT⟩ | ⟨_, _, hT⟩ | ⟨_, z, _⟩
      · have := congrArg List.length hT
        rw [List.length_append, be8_length] at this
        omega
      · have := congrArg List.length hT
        rw [List.length_append, be8_length] at this
        omega
      · exact absurd z c3

theorem fin_ok {acc : List Part} (o : ∀ p ∈ acc, okP p = true) : fin acc = if acc.length > 16 then ([], 31) else (acc, 0) := by
  unfold fin chk
  by_cases c : 16 < acc.length
  · rw [if_pos c, if_neg (by decide), if_pos c]
  · rw [if_neg c, if_pos (List.all_eq_true.mpr o), if_pos rfl, if_neg (by omega)]

theorem rdecode_loop : ∀ (n : Nat) (s : ByteArray) (acc : List Part), s.size ≤ n → s.size ≤ 1048576 → acc.length + s.size ≤ 3518437208000 → (∀ p ∈ acc, WF p) → (∀ p ∈ acc, okP p = true) →
    ∃ r, Ev (fun k => rhizomeref03_Decode.l0 k acc s) r ∧ IsDec acc s.data.toList r
  | n, s, acc, hn, hs, ha, wa, oa => by
    have hz := Lib.size_eq s
    cases hl : s.data.toList with
    | nil =>
      have hs0 : s.size = 0 := by rw [hz, hl]; rfl
      refine ⟨fin acc, ?_, .inl ⟨[], ⟨by simp, by simp, rfl⟩, by rw [List.append_nil]⟩⟩
      rw [fin_ok oa]
      refine Ev.step (f := fun _ => some (if acc.length > 16 then ([], 31) else (acc, 0))) (fun k => ?_) (Ev.now _)
      simp only [rhizomeref03_Decode.l0]
      rw [if_neg (by omega)]
      by_cases c : acc.length > 16
      · rw [if_pos c, if_pos (by omega)]
      · rw [if_neg c, if_neg (by omega)]
    | cons c T =>
      have h0 : (c :: T : List UInt8) ≠ [] := by simp
      obtain ⟨g, hg, wg, hgu⟩ := guess_ev s c T hl hs
      rw [hl] at hz hgu
      rw [List.length_cons] at hz
      have same : ∀ q rs, WF q → okP q = true → c :: T = partB q ++ enc rs → g = q := fun q rs wq oq eq => hgu q (enc rs) wq oq eq
      have hone := rone_ok g wg
      have hstep : ∀ j, rhizomeref03_Decode.l0 (j + 1) acc s = (rhizomeref03_guess.f j s).bind fun bt237 => (rhizomeref03_one.f bt237.1 bt237.2.1 bt237.2.2.1 bt237.2.2.2).bind fun t242 => (if t242 = true then ((rhizomeref03_bytes.f j bt237.1 bt237.2.1 bt237.2.2.1 bt237.2.2.2).bind fun t243 => (if (t243.size : Int) > (s.size : Int) then (some (([] : List Part), 31)) else (if 0 ≤ (t243.size : Int) then (if (t243.size : Int) ≤ (s.size : Int) then (if (s.extract 0 ((t243.size : Int) : Int).toNat).toList = t243.toList then (if acc.length < 3518437208883 then (rhizomeref03_Decode.l0 j (acc ++ [(⟨bt237.1, bt237.2.1, bt237.2.2.1, bt237.2.2.2⟩ : Part)]) (s.extract ((t243.size : Int) : Int).toNat s.size)) else (none)) else (some (([] : List Part), 31))) else (none)) else (none)))) else (some (([] : List Part), 31))) := fun j => by
        simp only [rhizomeref03_Decode.l0]
        rw [if_pos (by omega)]
      by_cases og : okP g = true
      · have hps : (⟨(partB g).toArray⟩ : ByteArray).size = (partB g).length := by rw [Lib.size_eq]
        have hpt : (⟨(partB g).toArray⟩ : ByteArray).data.toList = partB g := rfl
        have hpl := (partB_len og).2
        by_cases pre : partB g <+: c :: T
        · obtain ⟨R, hR⟩ := pre
          have hlen := congrArg List.length hR
          rw [List.length_append, List.length_cons] at hlen
          have hx0 : (s.extract 0 (partB g).length).data.toList = partB g := by
            rw [Lib.extract_data, hl, ← hR]; simp
          have hx1 : (s.extract (partB g).length s.size).data.toList = R := by
            rw [Lib.extract_data, hl, ← hR, hz, ← hlen]; simp
          match n, hn with
          | 0, hn => omega
          | n + 1, hn =>
            have hxs : (s.extract (partB g).length s.size).size = R.length := by rw [Lib.size_eq, hx1]
            obtain ⟨x, hx, hd⟩ := rdecode_loop n (s.extract (partB g).length s.size) (acc ++ [g]) (by omega) (by omega) (by rw [List.length_append, List.length_singleton]; omega) (fun p hp => by
              rcases List.mem_append.mp hp with h | h
              · exact wa p h
              · rw [List.mem_singleton.mp h]; exact wg) (fun p hp => by
              rcases List.mem_append.mp hp with h | h
              · exact oa p h
              · rw [List.mem_singleton.mp h]; exact og)
            rw [hx1] at hd
            refine ⟨x, Ev.step hstep (Ev.bind hg ?_), ?_⟩
            · simp only [hone, Option.bind_some, og, if_true]
              refine Ev.bind (rbytes_f g wg og) ?_
              simp only [hps, Lib.toList_data, hpt, Int.toNat_natCast, hx0, show ¬ (((partB g).length : Int) > (s.size : Int)) from by omega, show (0 ≤ ((partB g).length : Int)) from by omega, show (((partB g).length : Int) ≤ (s.size : Int)) from by omega, show acc.length < 3518437208883 from by omega, if_true, if_false]
              exact hx
            · rcases hd with ⟨qs, hq, rfl⟩ | ⟨rfl, hq⟩
              · exact .inl ⟨g :: qs, whole_cons wg og hR.symm hq, by rw [List.append_assoc]; rfl⟩
              · refine .inr ⟨rfl, fun ⟨qs, hw⟩ => hq ?_⟩
                obtain ⟨q, rs, rfl, wq, oq, eq, hw2⟩ := whole_head hw h0
                have := same q rs wq oq eq
                subst this
                rw [← hR] at eq
                rw [List.append_cancel_left eq]
                exact ⟨rs, hw2⟩
        · refine ⟨([], 31), Ev.step hstep (Ev.bind hg ?_), .inr ⟨rfl, fun ⟨qs, hw⟩ => ?_⟩⟩
          · simp only [hone, Option.bind_some, og, if_true]
            refine Ev.bind (rbytes_f g wg og) ?_
            simp only [hps, Lib.toList_data, hpt, Int.toNat_natCast]
            by_cases big : ((partB g).length : Int) > (s.size : Int)
            · simp only [if_pos big]; exact Ev.now _
            · have ne : ¬ (s.extract 0 (partB g).length).data.toList = partB g := fun z => pre (by
                have p : (s.extract 0 (partB g).length).data.toList <+: c :: T := by
                  have e : (s.extract 0 (partB g).length).data.toList = (c :: T).take (partB g).length := by rw [Lib.extract_data, hl]; simp
                  rw [e]
                  exact List.take_prefix _ _
                rw [z] at p
                exact p)
              simp only [if_neg big, show (0 ≤ ((partB g).length : Int)) from by omega, show (((partB g).length : Int) ≤ (s.size : Int)) from by omega, if_true, if_neg ne]
              exact Ev.now _
          · obtain ⟨q, rs, rfl, wq, oq, eq, hw2⟩ := whole_head hw h0
            have := same q rs wq oq eq
            subst this
            exact pre ⟨_, eq.symm⟩
      · refine ⟨([], 31), Ev.step hstep (Ev.bind hg ?_), .inr ⟨rfl, fun ⟨qs, hw⟩ => ?_⟩⟩
        · simp only [hone, Option.bind_some, Bool.eq_false_iff.mpr og, Bool.false_eq_true, if_false]
          exact Ev.now _
        · obtain ⟨q, rs, rfl, wq, oq, eq, hw2⟩ := whole_head hw h0
          have := same q rs wq oq eq
          subst this
          exact og oq

theorem rdecode_ev (s : ByteArray) (hs : s.size ≤ 1048576) : ∃ r, Ev (fun k => rhizomeref03_Decode.f k s) r ∧ IsDec [] s.data.toList r := by
  unfold rhizomeref03_Decode.f
  exact rdecode_loop s.size s [] (Nat.le_refl _) hs (by simp; omega) (by simp) (by simp)

end Go.Proofs.YtpimfioeeipnhaaDoor.Pl

/-
  What the reference's Same comes to: are the lists one? Condition: the lists' lengths.
-/
namespace Go.Proofs.YtpimfioeeipnhaaDoor.Pl
open Go.Proofs.YtpimfioeeipnhaaDoor.Hand Go.Proofs.YtpimfioeeipnhaaDoor.K Go.Lib Go.RowKit Go.Proofs.YtpimfioeeipnhaaDoorW.PrintWords Go.Proofs.YtpimfioeeipnhaaDoorW.PrintMore
set_option linter.unusedVariables false
set_option linter.unusedSimpArgs false

theorem same_loop (a b : List Part) (hab : a.length = b.length) (hl : a.length ≤ 4611686018427387904) : ∀ (d i : Nat), i + d = a.length →
    ∃ r : Bool, Ev (fun k => rhizomeref03_Same.l0 k a b (i : Int)) r ∧ (r = true ↔ a.drop i = b.drop i)
  | 0, i, h => by
    refine ⟨true, Ev.step (f := fun _ => some true) (fun k => by simp only [rhizomeref03_Same.l0]; rw [if_neg (by omega)]) (Ev.now _), ?_⟩
    rw [List.drop_eq_nil_of_le (by omega), List.drop_eq_nil_of_le (by omega)]
    simp
  | d + 1, i, h => by
    have hi : i < a.length := by omega
    have hj : i < b.length := by omega
    have ea : a.drop i = a[i] :: a.drop (i + 1) := List.drop_eq_getElem_cons hi
    have eb : b.drop i = b[i] :: b.drop (i + 1) := List.drop_eq_getElem_cons hj
    obtain ⟨r, hr, hr2⟩ := same_loop a b hab hl d (i + 1) (by omega)
    have si := same_iff a[i] b[i]
    rw [ea, eb]
    have hs : ∀ k, rhizomeref03_Same.l0 (k + 1) a b (i : Int) = if (!((a[i].f0 == b[i].f0) && ((a[i].f1 == b[i].f1) && ((a[i].f2 == b[i].f2) && (a[i].f3.toList == b[i].f3.toList))))) = true then some false else rhizomeref03_Same.l0 k a b ((i + 1 : Nat) : Int) := fun k => by
      simp only [rhizomeref03_Same.l0]
      rw [if_pos (by omega), if_pos (by omega), if_pos (by omega), rd_nat a i hi, rd_nat b i hj, wrap_succ i (by omega)]
      simp only [Bool.not_and]
    by_cases c : a[i] = b[i]
    · refine ⟨r, Ev.step (fun k => ?_) hr, ?_⟩
      · rw [hs k, si.mpr c]; simp
      · rw [hr2, c]; exact ⟨fun z => by rw [z], fun z => (List.cons.inj z).2⟩
    · refine ⟨false, Ev.step (f := fun _ => some false) (fun k => ?_) (Ev.now _), ?_⟩
      · rw [hs k, Bool.eq_false_iff.mpr (fun z => c (si.mp z))]; simp
      · exact ⟨fun z => (by cases z), fun z => absurd (List.cons.inj z).1 c⟩

theorem same_ev (a b : List Part) (hl : a.length ≤ 4611686018427387904) : ∃ r : Bool, Ev (fun k => rhizomeref03_Same.f k a b) r ∧ (r = true ↔ a = b) := by
  unfold rhizomeref03_Same.f
  by_cases c : a.length = b.length
  · simp only [show ((a.length : Int) = (b.length : Int)) from by omega, if_true]
    simpa using same_loop a b c hl a.length 0 (by omega)
  · simp only [show ¬ ((a.length : Int) = (b.length : Int)) from by omega, if_false]
    exact ⟨false, Ev.now _, by simp; rintro rfl; exact c rfl⟩

end Go.Proofs.YtpimfioeeipnhaaDoor.Pl

/-
  The law KeysReads, plain: what the printed functions come to is true. Condition: the text's length.
-/
namespace Go.Proofs.YtpimfioeeipnhaaDoor.Pl
open Go.Proofs.YtpimfioeeipnhaaDoor.Hand Go.Proofs.YtpimfioeeipnhaaDoor.K Go.Lib Go.RowKit Go.Proofs.YtpimfioeeipnhaaDoorW.PrintWords Go.Proofs.YtpimfioeeipnhaaDoorW.PrintMore
set_option linter.unusedVariables false
set_option linter.unusedSimpArgs false

theorem fixed_ev8 : Ev (fun k => rhizomelaw03_fixed.f k) true := Ev.of rhizomelaw03_fixed.mono fixed_at

theorem reads_l1 (s : ByteArray) (a : List Part) (v x5 : Int) (h : Ev (fun k => rhizomelaw03_KeysReads.l0 k s a v (wrap64 (x5 + 1))) true) : ∀ (d i : Nat) (x : List Part), i + d = x.length → x.length ≤ 4611686018427387904 →
    Ev (fun k => rhizomelaw03_KeysReads.l1 k s a v x5 x (i : Int)) true
  | 0, i, x, hi, hx => by
    refine Ev.step (fun k => ?_) h
    simp only [rhizomelaw03_KeysReads.l1]
    rw [if_neg (by omega)]
  | d + 1, i, x, hi, hx => by
    have ih := reads_l1 s a v x5 h d (i + 1) (x.set i ⟨0, 0, 0, ⟨#[115, 112, 111, 105, 108, 116]⟩⟩) (by rw [List.length_set]; omega) (by rw [List.length_set]; omega)
    refine Ev.step (fun k => ?_) ih
    simp only [rhizomelaw03_KeysReads.l1]
    rw [if_pos (by omega), if_pos (by omega), wrap_succ i (by omega), Int.toNat_natCast]

theorem fin_len (qs : List Part) : (fin qs).1.length ≤ 16 := by
  unfold fin
  by_cases c : chk qs = 0
  · rw [if_pos c]; exact (chk_ok c).1
  · rw [if_neg c]; simp

theorem reads_l0 (s : ByteArray) (r : List Part × Int) (hl : r.1.length ≤ 16) (hd : Ev (fun k => keys_Decode.f k s) r) (x5 : Int) (h5 : x5 < 2) (h : Ev (fun k => rhizomelaw03_KeysReads.l0 k s r.1 r.2 (wrap64 (x5 + 1))) true) :
    Ev (fun k => rhizomelaw03_KeysReads.l0 k s r.1 r.2 x5) true := by
  refine Ev.step (f := fun k => (keys_Decode.f k s).bind fun bt254 => if bt254.2 = r.2 then ((rhizomeref03_Same.f k bt254.1 r.1).bind fun t258 => rhizomelaw03_KeysReads.j1 k s r.1 r.2 x5 bt254.1 (!t258)) else rhizomelaw03_KeysReads.j1 k s r.1 r.2 x5 bt254.1 true) (fun k => ?_) (Ev.bind hd ?_)
  · simp only [rhizomelaw03_KeysReads.l0]
    rw [if_pos h5]
  · simp only [if_true]
    obtain ⟨t, ht, ht2⟩ := same_ev r.1 r.1 (by omega)
    have := ht2.mpr rfl
    subst this
    refine Ev.bind ht ?_
    refine Ev.step (f := fun k => rhizomelaw03_KeysReads.l1 k s r.1 r.2 x5 r.1 0) (fun k => by simp only [rhizomelaw03_KeysReads.j1, Bool.not_true, Bool.false_eq_true, if_false]) ?_
    exact reads_l1 s r.1 r.2 x5 h r.1.length 0 r.1 (by omega) (by omega)

theorem keysReads (s : ByteArray) (hs : s.size ≤ 1048576) : ∃ k, rhizomelaw03_KeysReads.f k s = some true := by
  refine Ev.rounds (g := fun k => rhizomelaw03_KeysReads.f k s) ?_
  unfold rhizomelaw03_KeysReads.f
  obtain ⟨r, hr, hd⟩ := rdecode_ev s hs
  obtain ⟨r', hr', hd'⟩ := decode_ev s hs
  have := isDec_inj hd' hd
  subst this
  have hl : r'.1.length ≤ 16 := by
    rcases hd with ⟨qs, _, rfl⟩ | ⟨rfl, _⟩
    · exact fin_len _
    · simp
  refine Ev.bind hr ?_
  refine reads_l0 s r' hl hr' 0 (by omega) ?_
  rw [show wrap64 (0 + 1) = 1 from by unfold wrap64; omega]
  refine reads_l0 s r' hl hr' 1 (by omega) ?_
  rw [show wrap64 (1 + 1) = 2 from by unfold wrap64; omega]
  exact Ev.step (f := fun k => (rhizomelaw03_fixed.f k).bind fun t => some t) (fun k => by simp only [rhizomelaw03_KeysReads.l0]; rw [if_neg (by omega)]) (Ev.bind fixed_ev8 (Ev.now _))

end Go.Proofs.YtpimfioeeipnhaaDoor.Pl

namespace Go.Proofs.YtpimfioeeipnhaaDoor.keysReads
open Go.ChangeShapes Go.WideShapes Go.ChangeAt Go.RowKit Go.Deep Go.Joins Go.Proofs.YtpimfioeeipnhaaDoor.Pl Go.Proofs.YtpimfioeeipnhaaDoor.Args Go.Proofs.YtpimfioeeipnhaaDoorW.PrintWords Go.Proofs.YtpimfioeeipnhaaDoorW.PrintMore Go.Proofs.YtpimfioeeipnhaaDoorW.PrintLast
open Go.ChangeMaps (open_string shut_string)
set_option linter.unusedVariables false
set_option linter.unusedSimpArgs false

theorem contract (H : Type) (enc : TypeId × Value → H) (W : World) (base : Nat) (args : Array Value) (ds gs : List (DataW H)) (before : List MemPlace)
    (hval : ∀ (j : Nat) t v, Tryd.f4.params[j]? = some t → args[j]? = some v → Value.okWide Tryd.prog W .any base t v)
    (hW : DataW.Whole enc Tryd.prog Tryd.f4.params.toList Rows.keysReadsSpec.vars false W args.toList ds gs before) (hu : Rows.uptoBulkAll (ds ++ gs) ≤ 1048576)
    (hsz : (DataW.weightsEach Tryd.prog (Tryd.f4.params.toList ++ Rows.keysReadsSpec.plain.varTypes Tryd.prog) (ds ++ gs)).all (· ≤ reachBytes) = true) :
    Calls Tryd.prog 4 args W fun e W' => ∃ v, e = .returned v ∧ Rows.keysReadsSpec.post enc Tryd.prog Tryd.f4 false true false false W args v W' := by
  have hW' := hW
  obtain ⟨p, q, hA0, hV, rfl, hfz, hnd⟩ := hW
  have hA : DataW.TrodAll enc Tryd.prog W 0 (fun _ => true) true Tryd.f4.params.toList args.toList ds p := hA0
  rw [Tryd.params4] at hA hval hsz
  obtain ⟨v0, vs0, d0, ds0, p0, q0, hargs, rfl, rfl, h0, r0⟩ := trodAll_cons hA
  obtain ⟨rfl, rfl, rfl⟩ := trodAll_nil r0
  obtain rfl : args = #[v0] := by cases args; simp_all
  obtain ⟨rfl, rfl⟩ := trodVars_none hV
  simp only [List.append_nil, Rows.uptoBulkAll] at hu
  obtain ⟨a0, rfl, rfl, rfl, y0⟩ := open_string Tryd.underlying9 (hval 0 9 v0 rfl rfl) h0
  have w0 : a0.size ≤ 1048576 := by
    have z := hu
    simp only [Rows.uptoBulk, Array.length_toList] at z
    have e : a0.size = a0.data.size := rfl
    omega
  obtain ⟨k, hk⟩ := Pl.keysReads a0 w0
  clear hA0 hsz hnd hfz
  refine (Go.Proofs.YtpimfioeeipnhaaDoor.K.rhizomelaw03_KeysReads.calls k a0 true W  hk).mono fun e W' ⟨he, bel⟩ => ?_
  subst he
  exact ⟨_, rfl, _, _, _, [], _, [], hW', trodAll_mk1 (shut_bool Tryd.underlying4 _), (trodAll_cons_mk (shut_string Tryd.underlying9 y0) trodAll_mk0), rfl, bel.frame _, fun h => by cases h⟩

theorem laid_met (os : Os) : laidMet Tryd.prog Rows.keysReadsUptoRow.laid ((laidWorld os).forCall (fun _ _ => 0) ⟨#[], #[.string ByteArray.empty], []⟩).memory :=
  laidMet_of_run' 8 (by kernel_rfl) (by kernel_rfl)
theorem reads (os : Os) {H : Type} (enc : TypeId × Value → H) : ∃ places, DataW.whole enc Tryd.prog ((laidWorld os).forCall (fun _ _ => 0) ⟨#[], #[.string ByteArray.empty], []⟩).memory Tryd.f4.params.toList Rows.keysReadsSpec.vars false (#[.string ByteArray.empty] : Array Value).toList 8 = some ([.lit (.string [])], [], places) :=
  ⟨[], by kernel_rfl⟩

set_option maxRecDepth 100000 in
theorem lifted (os : Os) (started : os.Started) (H : Type) (enc : TypeId × Value → H) (F : Stop.Interp) :
    ReturnsInHanded {} Tryd.checked os 4 .any ((Rows.OpenSpec.upto Rows.keysReadsSpec).preRow enc Tryd.prog Tryd.f4 Rows.keysReadsUptoRow.domain false Rows.keysReadsUptoRow.laid) (((Rows.OpenSpec.upto Rows.keysReadsSpec).at F).post enc Tryd.prog Tryd.f4 false true false false) := by
  obtain ⟨places, hx⟩ := reads os enc
  refine returnsInHanded_of_row (C := Tryd.checked) (s := (Rows.OpenSpec.upto Rows.keysReadsSpec)) own started (by kernel_rfl) Tryd.func4
    (witness_row_at (enc := enc) (C := Tryd.checked) false (laidWorld os) #[.string ByteArray.empty] rfl (by kernel_rfl) (by kernel_rfl) (by kernel_rfl)
      (OpenSpec.preRow_of_cond 8 hx (by kernel_rfl) (fun k hk => by cases hk; kernel_rfl) (by kernel_rfl) (laid_met os))) ?_
  intro W base args ds gs before hval hW _ hcond hsz _ _ _
  exact contract H enc W base args ds gs before hval hW (of_decide_eq_true (hcond _ rfl)) hsz

theorem said : Rows.KeysReadsUptoSaid :=
  OpenClaim.holds_of_cond 4 Tryd.f4 rfl rfl rfl rfl rfl rfl rfl ⟨rfl, rfl, rfl, rfl, rfl⟩ rfl rfl rfl rfl rfl (by kernel_rfl) Tryd.func4 (by kernel_rfl)
    (of_decide_eq_true (by kernel_rfl)) (by unfold Func.isWrapper; first | (rw [if_pos (by decide +kernel)]; kernel_rfl) | (rw [if_neg (by decide +kernel)]; exact ⟨rfl, rfl⟩))
    (fun os started H enc _ F => by rw [OpenClaim.pre_eq_preRow]; exact lifted os started H enc F)

theorem wants : ∀ t ∈ Tryd.f4.params, Tryd.prog.wantsStandIn t = false := by
  rw [Tryd.params4]
  intro t ht
  simp only [List.mem_toArray, List.mem_cons, List.not_mem_nil, or_false] at ht
  rcases ht with rfl <;> kernel_rfl
theorem plain (f : FuncId) (fn : Func) (hf : Tryd.pinned.checked.prog.funcNamed "rhizome/rhizomelaw03.KeysReads" = some f) (hfn : Tryd.pinned.checked.prog.funcs[f]? = some fn) :
    false = Tryd.pinned.checked.prog.looks [] ∧ ∀ (j : Nat) t, fn.params[j]? = some t → Tryd.pinned.checked.prog.wantsStandIn t = false := by
  obtain rfl : f = 4 := Option.some.inj ((show Tryd.prog.funcNamed "rhizome/rhizomelaw03.KeysReads" = some 4 by kernel_rfl).symm.trans hf) |>.symm
  obtain rfl : fn = Tryd.f4 := (Option.some.inj (Tryd.func4.symm.trans hfn)).symm
  exact ⟨by kernel_rfl, fun j t ht => wants t (Array.mem_of_getElem? ht)⟩

theorem card : Rows.KeysReadsUptoCardSaid :=
  Claim7.holds_tied_plain_at .later [] _ _ _ _ said (fun _ h => by cases h) (by kernel_rfl) (fun _ h => by cases h) keysReadsUpto_row_tie rfl ⟨rfl, rfl⟩ (by kernel_rfl) rfl plain (by kernel_rfl)

end Go.Proofs.YtpimfioeeipnhaaDoor.keysReads
