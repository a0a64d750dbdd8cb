/-
  Write, Read: all their cases; two disks beside one another.
-/
import Derived.Test.YtjkhcfdflcndkaaGreatKO03
import Derived.Test.YtjkhcfdflcndkaaGreatKO04
import Derived.KernelRfl
import Derived.ProofKit
import Derived.OpenShut
import Derived.Deep.Fields
import Derived.Deep.Slices
import Derived.ChangeSame
import Derived.Lib.SmallJoins
import Derived.SizedLaws
import Derived.Test.YtjkhcfdflcndkaaGreatKO00
namespace Go.Proofs.YtjkhcfdflcndkaaGreat.D
open Go.RowKit Go.Maps Go.Shelf
set_option linter.unusedVariables false
set_option linter.unusedSimpArgs false

theorem write_c (w : World) (g bm : Nat) (s : St) (h : At w g bm s) (hs : s.Ok) (a : Int) (ha : -9223372036854775808 ≤ a) (ha2 : a ≤ 9223372036854775807) (l : List UInt8) (hl : l.length ≤ 9223372036854775807) : WriteC w g bm s a l := by
  cases hd : s.dead with
  | true => exact write_dead w g bm s h hs a l hl hd
  | false =>
    by_cases hm : l.length % 64 = 0
    · by_cases hat : a < 0 ∨ (s.n : Int) < a ∨ (s.n : Int) - a < (l.length / 64 : Nat)
      · exact write_at w g bm s h hs a ha ha2 l hl hd hm hat
      · obtain ⟨A, rfl⟩ : ∃ A : Nat, a = A := ⟨a.toNat, by omega⟩
        exact write_go w g bm s h hs A l hd hm (by omega)
    · exact write_long w g bm s h hs a l hl hd hm

theorem read_c (w : World) (g bm : Nat) (s : St) (h : At w g bm s) (hs : s.Ok) (a c : Int) (ha : -9223372036854775808 ≤ a) (ha2 : a ≤ 9223372036854775807) : ReadC w g s a c := by
  cases hd : s.dead with
  | true => exact read_dead w g bm s h a c hd
  | false =>
    by_cases hat : a < 0 ∨ c < 0 ∨ (s.n : Int) < a ∨ (s.n : Int) - a < c
    · exact read_at w g bm s h hs a c ha ha2 hd hat
    · obtain ⟨A, rfl⟩ : ∃ A : Nat, a = A := ⟨a.toNat, by omega⟩
      obtain ⟨C, rfl⟩ : ∃ C : Nat, c = C := ⟨c.toNat, by omega⟩
      exact read_go w g bm s h hs A C hd (by omega)

/-- A slice of ints stays while a disk turns. -/
theorem IntsAt.beside {w w' : World} {g bm : Nat} {s : St} {v : Value} {ks : List Int} (h : IntsAt w v ks) (hd : At w g bm s) (hf : Fr (fun i => i = g ∨ i = bm) w w') : IntsAt w' v ks := by
  refine h.keep hf (fun b cur hb e => ?_)
  obtain ⟨⟨kv, h1, _⟩, m, D, ⟨es, clock, h2, _⟩, _⟩ := hd
  rcases e with e | e
  · subst e; rw [h1] at hb; cases hb
  · subst e; rw [h2] at hb; cases hb

/-- A disk stays while another one turns. -/
theorem At.beside {w w' : World} {g bm g' bm' : Nat} {s s' : St} (h : At w g' bm' s') (hd : At w g bm s) (hf : Fr (fun i => i = g ∨ i = bm) w w') (h1 : g' ≠ g) (h2 : bm' ≠ bm) : At w' g' bm' s' := by
  obtain ⟨⟨kv, a1, a2⟩, m, D, a3, a4⟩ := h
  have hd' := hd
  obtain ⟨⟨kv', b1, _⟩, m', D', ⟨es', clock', b2, _⟩, _⟩ := hd'
  have n1 : g' ≠ bm := by rintro rfl; rw [a1] at b2; cases b2
  have n2 : bm' ≠ g := by
    obtain ⟨es, clock, c2, _⟩ := a3
    rintro rfl; rw [b1] at c2; cases c2
  exact ⟨⟨kv, hf.at a1 (by rintro (e | e); exact h1 e; exact n1 e), a2.beside hd hf⟩, m, D, owns_keep a3 hf (by rintro (e | e); exact n2 e; exact h2 e), a4⟩

/-- Numbers in a new row. -/
theorem ints_new (w : World) (ks : List Int) (h : ks.length ≤ 9223372036854775807) : IntsAt (w.alloc (.cells (ks.map (Value.int .i64)).toArray 3)) (.slice (some ⟨w.heap.size, 0, none⟩) ks.length ks.length) ks := by
  refine ⟨_, _, rfl, h, Or.inr ⟨w.heap.size, 0, _, rfl, (MapKept.heap_alloc w _).1, fun j hj => ?_⟩, fun x hx => by cases hx; rfl⟩
  simp [hj, List.getD_eq_getElem?_getD]

end Go.Proofs.YtjkhcfdflcndkaaGreat.D

/-
  The calls whose answers the document fixes: they are so. No condition.
-/
namespace Go.Proofs.YtjkhcfdflcndkaaGreat.D
open Go.RowKit Go.Maps Go.Shelf
set_option linter.unusedVariables false
set_option linter.unusedSimpArgs false

def zero (n : Nat) : List UInt8 := List.replicate n 0
def f0 : St := news (zero 128)
def fA : List UInt8 := fillL 128 97
def fX : List UInt8 := fillL 128 120
def f1 : St := (f0.write 0 fA).1
def f3 : St := (f1.arm 1 [1]).1
def f4 : St := (f3.write 0 fX).1

theorem f0_ok : f0.Ok := news_ok (by simp [IsImage, zero])
theorem f1_ok : f1.Ok := (write_ok f0_ok 0 fA).1
theorem f3_ok : f3.Ok := (arm_ok f1_ok (by decide) [1]).1
theorem f4_ok : f4.Ok := (write_ok f3_ok 0 fX).1

theorem q_w1 : (f0.write 0 fA).2 = 0 := by kernel_rfl
theorem q_a1 : (f1.arm 1 [1]).2 = 0 := by kernel_rfl
theorem q_w4 : (f3.write 0 fX).2 = 2 := by kernel_rfl
theorem q_w5 : (f1.write 1 fA).2 = 171 := by kernel_rfl
theorem q_w5s : (f1.write 1 fA).1 = f1 := by kernel_rfl
theorem q_d4 : f4.dead = true := by kernel_rfl
theorem q_d1 : f1.dead = false := by kernel_rfl
theorem q_n1 : f1.n = 2 := by kernel_rfl
theorem aft : ∃ L, f1.after [0, 1] = L ∧ L.length = 128 ∧ L.getD 0 0 = 0 ∧ L.getD 64 0 = 98 := ⟨_, rfl, by kernel_rfl, by kernel_rfl, by kernel_rfl⟩
theorem img : ∃ L, f4.image = L ∧ L.length = 128 ∧ L.getD 0 0 = 120 ∧ L.getD 64 0 = 0 := ⟨_, rfl, by kernel_rfl, by kernel_rfl, by kernel_rfl⟩
theorem red : ∃ L, f1.read 1 1 = (L, 0) ∧ L.length = 64 ∧ L.getD 0 0 = 98 := ⟨(f1.read 1 1).1, by kernel_rfl, by kernel_rfl, by kernel_rfl⟩

theorem mkz (n : Nat) (hn : n ≤ 281474976710656) (w : World) :
    (Instr.makeSlice 60 (.int .i64 (n : Int)) (.int .i64 (n : Int))).run Tryz.prog w = .ok (.slice (some ⟨w.heap.size, 0, none⟩) n n) (w.alloc (.cells (bytesOf (zero n)).toArray 5)) := mk_row n hn w
theorem mks (n : Nat) (w : World) :
    (convert 60 9 (.slice (some ⟨w.heap.size, 0, none⟩) n n)).run Tryz.prog (w.alloc (.cells (bytesOf (zero n)).toArray 5)) = .ok (.string (bs (zero n))) (w.alloc (.cells (bytesOf (zero n)).toArray 5)) := made_str n w

theorem at_bs (L : List UInt8) (i : Nat) (h : i < (bs L).size) : (bs L)[i]'h = L.getD i 0 := by
  have hz : (bs L).size = L.length := by simp [bs, ByteArray.size]
  have h' : i < L.length := by omega
  simp [bs, ByteArray.getElem_eq_getElem_data, List.getD_eq_getElem?_getD, h']

end Go.Proofs.YtjkhcfdflcndkaaGreat.D

/-
  How whole numbers and texts read. No condition.
-/
namespace Go.Proofs.YtjkhcfdflcndkaaGreat.D
open Go.ChangeShapes Go.WideShapes Go.ChangeAt Go.RowKit Go.Deep Go.Joins
set_option linter.unusedVariables false

theorem bs_of (s : ByteArray) : s = bs s.data.toList := by cases s; simp [bs]
theorem bs_len (s : ByteArray) (h : s.size ≤ maxLen) : s.data.toList.length ≤ 9223372036854775807 := by
  have e : s.data.toList.length = s.size := by simp
  rw [e]; unfold maxLen at h; omega
theorem wf_lo {n : Int} (h : (Lit.int .i64 n).wf = true) : -9223372036854775808 ≤ n ∧ n ≤ 9223372036854775807 := by
  simp [Lit.wf, IntKind.min, IntKind.max, IntKind.bits, IntKind.signed] at h
  omega

end Go.Proofs.YtjkhcfdflcndkaaGreat.D

/-
  Plain laws of writes where no power is armed.
-/
namespace Go.Proofs.YtjkhcfdflcndkaaGreat.D
set_option linter.unusedVariables false
set_option linter.unusedSimpArgs false

def piece (l : List UInt8) (i : Nat) : List UInt8 := (l.drop (64 * i)).take 64

/-- What is unsafe behind a write of m sectors from k on. -/
def wun (m k : Nat) (l : List UInt8) (un : Nat → Option (List UInt8)) : Nat → Option (List UInt8) := fun j => if k ≤ j ∧ j < k + m then some (piece l (j - k)) else un j

theorem piece_drop (l : List UInt8) (i : Nat) : piece (l.drop 64) i = piece l (i + 1) := by
  simp only [piece, List.drop_drop]
  congr 2
  omega

theorem wrs_calm : ∀ (m k : Nat) (l : List UInt8) (s : St), s.armed = 0 → wrs m k l s = ({ s with un := wun m k l s.un }, false)
  | 0, k, l, s, _ => by
    have e : wun 0 k l s.un = s.un := by
      funext j
      simp only [wun]
      rw [if_neg (by omega)]
    rw [wrs, e]
  | m + 1, k, l, s, h => by
    have h1 : (s.wr1 k (l.take 64)).step = (s.wr1 k (l.take 64), false) := by simp [St.step, St.wr1, h]
    rw [wrs, h1]
    simp only [Bool.false_eq_true, if_false]
    rw [wrs_calm m (k + 1) (l.drop 64) (s.wr1 k (l.take 64)) h]
    have e : wun m (k + 1) (l.drop 64) (s.wr1 k (l.take 64)).un = wun (m + 1) k l s.un := by
      funext j
      simp only [wun, St.wr1]
      by_cases h1 : k + 1 ≤ j ∧ j < k + 1 + m
      · rw [if_pos h1, if_pos (by omega), piece_drop]
        congr 2
        omega
      · rw [if_neg h1]
        by_cases h2 : j = k
        · subst h2
          rw [if_pos rfl, if_pos (by omega)]
          simp [piece]
        · rw [if_neg h2, if_neg (by omega)]
    rw [e]
    rfl

def badW (n : Nat) (a : Int) (l : List UInt8) : Prop := l.length % 64 ≠ 0 ∨ a < 0 ∨ (n : Int) < a ∨ (n : Int) - a < (l.length / 64 : Nat)
def codeW (n : Nat) (a : Int) (l : List UInt8) : Int := if l.length % 64 ≠ 0 then 172 else if a < 0 ∨ (n : Int) < a ∨ (n : Int) - a < (l.length / 64 : Nat) then 171 else 0

theorem code_bad {n : Nat} {a : Int} {l : List UInt8} : codeW n a l = 0 ↔ ¬ badW n a l := by
  unfold codeW badW
  by_cases h1 : l.length % 64 ≠ 0
  · rw [if_pos h1]
    exact ⟨fun e => (by cases e), fun h2 => absurd (Or.inl h1) h2⟩
  · rw [if_neg h1]
    by_cases h2 : a < 0 ∨ (n : Int) < a ∨ (n : Int) - a < (l.length / 64 : Nat)
    · rw [if_pos h2]
      exact ⟨fun e => (by cases e), fun h3 => absurd (Or.inr h2) h3⟩
    · rw [if_neg h2]
      exact ⟨fun _ h3 => by rcases h3 with h3 | h3; exact h1 h3; exact h2 h3, fun _ => rfl⟩

/-- A write where no power is armed and the disk is not dead. -/
theorem write_calm (s : St) (h : s.armed = 0) (hd : s.dead = false) (a : Int) (l : List UInt8) :
    (s.write a l).2 = codeW s.n a l ∧ (badW s.n a l → (s.write a l).1 = s) ∧ (¬ badW s.n a l → (s.write a l).1 = { s with un := wun (l.length / 64) a.toNat l s.un }) := by
  unfold St.write codeW badW
  rw [if_neg (by simp [hd])]
  by_cases h1 : l.length % 64 ≠ 0
  · rw [if_pos h1, if_pos h1]
    exact ⟨rfl, fun _ => rfl, fun h2 => absurd (Or.inl h1) h2⟩
  · rw [if_neg h1, if_neg h1]
    by_cases h2 : a < 0 ∨ (s.n : Int) < a ∨ (s.n : Int) - a < (l.length / 64 : Nat)
    · rw [if_pos h2, if_pos h2]
      exact ⟨rfl, fun _ => rfl, fun h3 => absurd (Or.inr h2) h3⟩
    · rw [if_neg h2, if_neg h2, wrs_calm _ _ _ _ h]
      exact ⟨rfl, fun h3 => by rcases h3 with h3 | h3; exact absurd h3 h1; exact absurd h3 h2, fun _ => rfl⟩

theorem write_armed (s : St) (h : s.armed = 0) (hd : s.dead = false) (a : Int) (l : List UInt8) : (s.write a l).1.armed = 0 ∧ (s.write a l).1.dead = false ∧ (s.write a l).1.n = s.n := by
  obtain ⟨_, h1, h2⟩ := write_calm s h hd a l
  by_cases hb : badW s.n a l
  · rw [h1 hb]; exact ⟨h, hd, rfl⟩
  · rw [h2 hb]; exact ⟨h, hd, rfl⟩

/-- Two writes that have no sector in common. -/
theorem write_apart (s : St) (h : s.armed = 0) (hd : s.dead = false) (a b : Int) (l1 l2 : List UInt8) :
    (s.write a l1).2 = ((s.write b l2).1.write a l1).2 ∧ ((s.write a l1).1.write b l2).2 = (s.write b l2).2 ∧
    (¬ ((s.write a l1).2 = 0 ∧ ((s.write a l1).1.write b l2).2 = 0 ∧ a < b + (l2.length / 64 : Nat) ∧ b < a + (l1.length / 64 : Nat)) → ((s.write a l1).1.write b l2).1 = ((s.write b l2).1.write a l1).1) := by
  obtain ⟨a1, a2, a3⟩ := write_armed s h hd a l1
  obtain ⟨b1, b2, b3⟩ := write_armed s h hd b l2
  obtain ⟨p1, p2, p3⟩ := write_calm s h hd a l1
  obtain ⟨q1, q2, q3⟩ := write_calm s h hd b l2
  obtain ⟨r1, r2, r3⟩ := write_calm _ a1 a2 b l2
  obtain ⟨t1, t2, t3⟩ := write_calm _ b1 b2 a l1
  rw [a3] at r1 r2 r3
  rw [b3] at t1 t2 t3
  refine ⟨p1.trans t1.symm, r1.trans q1.symm, fun hno => ?_⟩
  rw [p1, r1] at hno
  by_cases hA : badW s.n a l1
  · rw [t2 hA, p2 hA]
  · by_cases hB : badW s.n b l2
    · rw [r2 hB, q2 hB]
    · rw [r3 hB, t3 hA, p3 hA, q3 hB]
      have hno' : ¬ (a < b + (l2.length / 64 : Nat) ∧ b < a + (l1.length / 64 : Nat)) := fun h => hno ⟨code_bad.2 hA, code_bad.2 hB, h.1, h.2⟩
      have e : wun (l2.length / 64) b.toNat l2 (wun (l1.length / 64) a.toNat l1 s.un) = wun (l1.length / 64) a.toNat l1 (wun (l2.length / 64) b.toNat l2 s.un) := by
        unfold badW at hA hB
        funext j
        simp only [wun]
        by_cases h1 : b.toNat ≤ j ∧ j < b.toNat + l2.length / 64
        · rw [if_pos h1, if_neg (by omega), if_pos h1]
        · rw [if_neg h1]
          by_cases h2 : a.toNat ≤ j ∧ j < a.toNat + l1.length / 64
          · rw [if_pos h2, if_pos h2]
          · rw [if_neg h2, if_neg h2, if_neg h1]
      simp only
      rw [e]

end Go.Proofs.YtjkhcfdflcndkaaGreat.D

/-
  Plain laws: what is left, sector by sector; writes while the power is armed.
-/
namespace Go.Proofs.YtjkhcfdflcndkaaGreat.D
set_option linter.unusedVariables false
set_option linter.unusedSimpArgs false

theorem piece_putAt {b l : List UInt8} {m k : Nat} (hl : l.length = 64) (hb : 64 * m + 64 ≤ b.length) : piece (putAt b m l) k = if k = m then l else piece b k := by
  have e1 : (b.take (64 * m)).length = 64 * m := by rw [List.length_take]; omega
  split
  · rename_i h
    subst h
    simp only [piece, putAt, List.append_assoc]
    rw [List.drop_append_of_le_length (by omega), List.drop_of_length_le (by omega), List.nil_append, List.take_append_of_le_length (by omega), List.take_of_length_le (by omega)]
  · rename_i h
    apply List.ext_getElem?
    intro i
    simp only [piece, putAt, List.append_assoc]
    by_cases hi : i < 64
    · rw [List.getElem?_take_of_lt hi, List.getElem?_take_of_lt hi, List.getElem?_drop, List.getElem?_drop]
      by_cases h2 : k < m
      · rw [List.getElem?_append_left (by omega), List.getElem?_take_of_lt (by omega)]
      · rw [List.getElem?_append_right (by omega), e1, List.getElem?_append_right (by omega), List.getElem?_drop, hl]
        congr 1
        omega
    · rw [List.getElem?_eq_none (by rw [List.length_take]; omega), List.getElem?_eq_none (by rw [List.length_take]; omega)]

theorem leftGo_append (c : Nat → Bool) (un : Nat → Option (List UInt8)) : ∀ (L1 L2 : List Nat) (i : Nat) (b : List UInt8), leftGo c un i (L1 ++ L2) b = leftGo c un (i + L1.length) L2 (leftGo c un i L1 b)
  | [], L2, i, b => rfl
  | k :: L1, L2, i, b => by
    rw [List.cons_append, leftGo, leftGo_append c un L1 L2 (i + 1), leftGo]
    congr 1
    simp only [List.length_cons]; omega

/-- How many unsafe sectors lie ahead of the k-th. -/
def cnt (un : Nat → Option (List UInt8)) (k : Nat) : Nat := ((List.range k).filter (fun i => (un i).isSome)).length

def upto (c : Nat → Bool) (un : Nat → Option (List UInt8)) (b : List UInt8) (m : Nat) : List UInt8 := leftGo c un 0 ((List.range m).filter (fun i => (un i).isSome)) b

theorem upto_succ (c : Nat → Bool) (un : Nat → Option (List UInt8)) (b : List UInt8) (m : Nat) : upto c un b (m + 1) = match un m with
    | some l => if c (cnt un m) then putAt (upto c un b m) m l else upto c un b m
    | none => upto c un b m := by
  unfold upto
  rw [List.range_succ, List.filter_append]
  cases hu : un m with
  | none => simp [hu]
  | some l =>
    have e : List.filter (fun i => (un i).isSome) [m] = [m] := by simp [hu]
    rw [e, leftGo_append, leftGo, leftGo, hu, Nat.zero_add]
    rfl

theorem upto_piece (c : Nat → Bool) (un : Nat → Option (List UInt8)) (b : List UInt8) (n : Nat) (hb : b.length = 64 * n) (hun : ∀ i l, un i = some l → l.length = 64) :
    ∀ m, m ≤ n → (upto c un b m).length = b.length ∧ ∀ k, piece (upto c un b m) k = if k < m ∧ (un k).isSome = true ∧ c (cnt un k) = true then (un k).getD [] else piece b k
  | 0, _ => ⟨rfl, fun k => by rw [if_neg (by omega)]; rfl⟩
  | m + 1, hm => by
    obtain ⟨h1, h2⟩ := upto_piece c un b n hb hun m (by omega)
    rw [upto_succ]
    cases hu : un m with
    | none =>
      refine ⟨h1, fun k => ?_⟩
      simp only
      rw [h2 k]
      by_cases hk : k = m
      · subst hk
        rw [if_neg (by simp [hu]), if_neg (by simp [hu])]
      · by_cases hk2 : k < m ∧ (un k).isSome = true ∧ c (cnt un k) = true
        · rw [if_pos hk2, if_pos ⟨by omega, hk2.2⟩]
        · rw [if_neg hk2, if_neg (fun h => hk2 ⟨by omega, h.2⟩)]
    | some l =>
      have hl := hun m l hu
      simp only
      cases hc : c (cnt un m) with
      | false =>
        simp only [Bool.false_eq_true, if_false]
        refine ⟨h1, fun k => ?_⟩
        rw [h2 k]
        by_cases hk : k = m
        · subst hk
          rw [if_neg (by omega), if_neg (by simp [hc])]
        · by_cases hk2 : k < m ∧ (un k).isSome = true ∧ c (cnt un k) = true
          · rw [if_pos hk2, if_pos ⟨by omega, hk2.2⟩]
          · rw [if_neg hk2, if_neg (fun h => hk2 ⟨by omega, h.2⟩)]
      | true =>
        simp only [if_true]
        refine ⟨(putAt_length (by rw [h1]; omega)).trans h1, fun k => ?_⟩
        rw [piece_putAt hl (by rw [h1]; omega)]
        by_cases hk : k = m
        · subst hk
          rw [if_pos rfl, if_pos ⟨by omega, by simp [hu], hc⟩, hu]
          rfl
        · rw [if_neg hk, h2 k]
          by_cases hk2 : k < m ∧ (un k).isSome = true ∧ c (cnt un k) = true
          · rw [if_pos hk2, if_pos ⟨by omega, hk2.2⟩]
          · rw [if_neg hk2, if_neg (fun h => hk2 ⟨by omega, h.2⟩)]

/-- What is left, sector by sector. -/
theorem left_piece {s : St} (hs : s.Ok) (c : Nat → Bool) (k : Nat) : piece (s.left c) k = if (s.un k).isSome = true ∧ c (cnt s.un k) = true then (s.un k).getD [] else piece s.safe k := by
  have h := (upto_piece c s.un s.safe s.n hs.safe (fun i l h => (hs.un i l h).2) s.n (Nat.le_refl _)).2 k
  show piece (upto c s.un s.safe s.n) k = _
  rw [h]
  by_cases h1 : (s.un k).isSome = true ∧ c (cnt s.un k) = true
  · obtain ⟨l, hl⟩ := Option.isSome_iff_exists.1 h1.1
    rw [if_pos ⟨(hs.un k l hl).1, h1⟩, if_pos h1]
  · rw [if_neg (fun h => h1 h.2), if_neg h1]

/-- A sector as it is read. -/
def sec (s : St) (k : Nat) : List UInt8 := (s.un k).getD (piece s.safe k)
theorem image_piece {s : St} (hs : s.Ok) (k : Nat) : piece s.image k = sec s k := by
  unfold St.image sec
  rw [left_piece hs]
  cases hu : s.un k with
  | none => simp
  | some l => simp

theorem unl_none {s : St} (h : s.un = fun _ => none) : s.unl = [] := by simp [St.unl, h]
theorem image_none {s : St} (h : s.un = fun _ => none) : s.image = s.safe := by
  unfold St.image St.left
  rw [unl_none h]
  rfl

theorem wun_step (m k : Nat) (l : List UInt8) (s : St) : wun m (k + 1) (l.drop 64) (s.wr1 k (l.take 64)).un = wun (m + 1) k l s.un := by
  funext j
  simp only [wun, St.wr1]
  by_cases h1 : k + 1 ≤ j ∧ j < k + 1 + m
  · rw [if_pos h1, if_pos (by omega), piece_drop]
    congr 2
    omega
  · rw [if_neg h1]
    by_cases h2 : j = k
    · subst h2
      rw [if_pos rfl, if_pos (by omega)]
      simp [piece]
    · rw [if_neg h2, if_neg (by omega)]

/-- Writes while the power is armed. -/
theorem wrs_armed : ∀ (m k : Nat) (l : List UInt8) (s : St), 0 < s.armed →
    wrs m k l s = if m < s.armed then ({ s with un := wun m k l s.un, armed := s.armed - m }, false) else (({ s with un := wun s.armed k l s.un, armed := 0 } : St).dies s.kept, true)
  | 0, k, l, s, h => by
    have e : wun 0 k l s.un = s.un := by
      funext j
      simp only [wun]
      rw [if_neg (by omega)]
    rw [wrs, if_pos h, e]
    rfl
  | m + 1, k, l, s, h => by
    have h1 : (s.wr1 k (l.take 64)).step = ({ s.wr1 k (l.take 64) with armed := s.armed - 1 }, s.armed == 1) := by
      have : s.armed ≠ 0 := by omega
      simp [St.step, St.wr1, this]
    rw [wrs, h1]
    by_cases ha : s.armed = 1
    · rw [if_pos (by simp [ha]), if_neg (by omega)]
      have e := wun_step 0 k l s
      have e0 : wun 0 (k + 1) (l.drop 64) (s.wr1 k (l.take 64)).un = (s.wr1 k (l.take 64)).un := by
        funext j
        simp only [wun]
        rw [if_neg (by omega)]
      rw [e0] at e
      rw [ha, ← e]
      rfl
    · rw [if_neg (by simp [ha])]
      rw [wrs_armed m (k + 1) (l.drop 64) { s.wr1 k (l.take 64) with armed := s.armed - 1 } (by show 0 < s.armed - 1; omega)]
      have e := wun_step m k l s
      have e2 := wun_step (s.armed - 1) k l s
      have e3 : s.armed - 1 + 1 = s.armed := by omega
      rw [e3] at e2
      by_cases hm : m + 1 < s.armed
      · rw [if_pos (by show m < s.armed - 1; omega), if_pos hm]
        show ({ s with un := wun m (k + 1) (l.drop 64) (s.wr1 k (l.take 64)).un, armed := s.armed - 1 - m }, false) = _
        rw [e]
        congr 2
        omega
      · rw [if_neg (by show ¬ m < s.armed - 1; omega), if_neg hm]
        show ((({ s with un := wun (s.armed - 1) (k + 1) (l.drop 64) (s.wr1 k (l.take 64)).un, armed := 0 } : St).dies s.kept), true) = _
        rw [e2]

/-- How many lie ahead, where just those from a on, m of them, are unsafe. -/
theorem cnt_wun (m a : Nat) (l : List UInt8) : ∀ k, a ≤ k → k ≤ a + m → cnt (wun m a l (fun _ => none)) k = k - a := by
  intro k h1 h2
  have key : ∀ d, d ≤ m → cnt (wun m a l (fun _ => none)) (a + d) = d := by
    intro d
    induction d with
    | zero =>
      intro _
      unfold cnt
      rw [List.filter_eq_nil_iff.2]
      · rfl
      · intro x hx
        have := List.mem_range.1 hx
        simp only [wun]
        rw [if_neg (by omega)]
        simp
    | succ d ih =>
      intro hd
      have h := ih (by omega)
      unfold cnt at h ⊢
      rw [← Nat.add_assoc, List.range_succ, List.filter_append, List.length_append, h]
      have : (wun m a l (fun _ => none) (a + d)).isSome = true := by
        simp only [wun]
        rw [if_pos (by omega)]
        rfl
      simp [this]
  have := key (k - a) (by omega)
  rwa [show a + (k - a) = k by omega] at this

end Go.Proofs.YtjkhcfdflcndkaaGreat.D
