/-
  Plain laws of writes where no power is armed.
-/
import Derived.Test.YtjkhcfdflcndkaaDP
namespace Go.Proofs.Ytjkhcfdflcndkaa.D
set_option linter.unusedVariables false
set_option linter.unusedSimpArgs false

def piece (l : List UInt8) (i : Nat) : List UInt8 := (l.drop (64 * i)).take 64

/-- What is unsafe behind a write of m sectors from k on. -/
def wun (m k : Nat) (l : List UInt8) (un : Nat → Option (List UInt8)) : Nat → Option (List UInt8) := fun j => if k ≤ j ∧ j < k + m then some (piece l (j - k)) else un j

theorem piece_drop (l : List UInt8) (i : Nat) : piece (l.drop 64) i = piece l (i + 1) := by
  simp only [piece, List.drop_drop]
  congr 2
  omega

theorem wrs_calm : ∀ (m k : Nat) (l : List UInt8) (s : St), s.armed = 0 → wrs m k l s = ({ s with un := wun m k l s.un }, false)
  | 0, k, l, s, _ => by
    have e : wun 0 k l s.un = s.un := by
      funext j
      simp only [wun]
      rw [if_neg (by omega)]
    rw [wrs, e]
  | m + 1, k, l, s, h => by
    have h1 : (s.wr1 k (l.take 64)).step = (s.wr1 k (l.take 64), false) := by simp [St.step, St.wr1, h]
    rw [wrs, h1]
    simp only [Bool.false_eq_true, if_false]
    rw [wrs_calm m (k + 1) (l.drop 64) (s.wr1 k (l.take 64)) h]
    have e : wun m (k + 1) (l.drop 64) (s.wr1 k (l.take 64)).un = wun (m + 1) k l s.un := by
      funext j
      simp only [wun, St.wr1]
      by_cases h1 : k + 1 ≤ j ∧ j < k + 1 + m
      · rw [if_pos h1, if_pos (by omega), piece_drop]
        congr 2
        omega
      · rw [if_neg h1]
        by_cases h2 : j = k
        · subst h2
          rw [if_pos rfl, if_pos (by omega)]
          simp [piece]
        · rw [if_neg h2, if_neg (by omega)]
    rw [e]
    rfl

def badW (n : Nat) (a : Int) (l : List UInt8) : Prop := l.length % 64 ≠ 0 ∨ a < 0 ∨ (n : Int) < a ∨ (n : Int) - a < (l.length / 64 : Nat)
def codeW (n : Nat) (a : Int) (l : List UInt8) : Int := if l.length % 64 ≠ 0 then 172 else if a < 0 ∨ (n : Int) < a ∨ (n : Int) - a < (l.length / 64 : Nat) then 171 else 0

theorem code_bad {n : Nat} {a : Int} {l : List UInt8} : codeW n a l = 0 ↔ ¬ badW n a l := by
  unfold codeW badW
  by_cases h1 : l.length % 64 ≠ 0
  · rw [if_pos h1]
    exact ⟨fun e => (by cases e), fun h2 => absurd (Or.inl h1) h2⟩
  · rw [if_neg h1]
    by_cases h2 : a < 0 ∨ (n : Int) < a ∨ (n : Int) - a < (l.length / 64 : Nat)
    · rw [if_pos h2]
      exact ⟨fun e => (by cases e), fun h3 => absurd (Or.inr h2) h3⟩
    · rw [if_neg h2]
      exact ⟨fun _ h3 => by rcases h3 with h3 | h3; exact h1 h3; exact h2 h3, fun _ => rfl⟩

/-- A write where no power is armed and the disk is not dead. -/
theorem write_calm (s : St) (h : s.armed = 0) (hd : s.dead = false) (a : Int) (l : List UInt8) :
    (s.write a l).2 = codeW s.n a l ∧ (badW s.n a l → (s.write a l).1 = s) ∧ (¬ badW s.n a l → (s.write a l).1 = { s with un := wun (l.length / 64) a.toNat l s.un }) := by
  unfold St.write codeW badW
  rw [if_neg (by simp [hd])]
  by_cases h1 : l.length % 64 ≠ 0
  · rw [if_pos h1, if_pos h1]
    exact ⟨rfl, fun _ => rfl, fun h2 => absurd (Or.inl h1) h2⟩
  · rw [if_neg h1, if_neg h1]
    by_cases h2 : a < 0 ∨ (s.n : Int) < a ∨ (s.n : Int) - a < (l.length / 64 : Nat)
    · rw [if_pos h2, if_pos h2]
      exact ⟨rfl, fun _ => rfl, fun h3 => absurd (Or.inr h2) h3⟩
    · rw [if_neg h2, if_neg h2, wrs_calm _ _ _ _ h]
      exact ⟨rfl, fun h3 => by rcases h3 with h3 | h3; exact absurd h3 h1; exact absurd h3 h2, fun _ => rfl⟩

theorem write_armed (s : St) (h : s.armed = 0) (hd : s.dead = false) (a : Int) (l : List UInt8) : (s.write a l).1.armed = 0 ∧ (s.write a l).1.dead = false ∧ (s.write a l).1.n = s.n := by
  obtain ⟨_, h1, h2⟩ := write_calm s h hd a l
  by_cases hb : badW s.n a l
  · rw [h1 hb]; exact ⟨h, hd, rfl⟩
  · rw [h2 hb]; exact ⟨h, hd, rfl⟩

/-- Two writes that have no sector in common. -/
theorem write_apart (s : St) (h : s.armed = 0) (hd : s.dead = false) (a b : Int) (l1 l2 : List UInt8) :
    (s.write a l1).2 = ((s.write b l2).1.write a l1).2 ∧ ((s.write a l1).1.write b l2).2 = (s.write b l2).2 ∧
    (¬ ((s.write a l1).2 = 0 ∧ ((s.write a l1).1.write b l2).2 = 0 ∧ a < b + (l2.length / 64 : Nat) ∧ b < a + (l1.length / 64 : Nat)) → ((s.write a l1).1.write b l2).1 = ((s.write b l2).1.write a l1).1) := by
  obtain ⟨a1, a2, a3⟩ := write_armed s h hd a l1
  obtain ⟨b1, b2, b3⟩ := write_armed s h hd b l2
  obtain ⟨p1, p2, p3⟩ := write_calm s h hd a l1
  obtain ⟨q1, q2, q3⟩ := write_calm s h hd b l2
  obtain ⟨r1, r2, r3⟩ := write_calm _ a1 a2 b l2
  obtain ⟨t1, t2, t3⟩ := write_calm _ b1 b2 a l1
  rw [a3] at r1 r2 r3
  rw [b3] at t1 t2 t3
  refine ⟨p1.trans t1.symm, r1.trans q1.symm, fun hno => ?_⟩
  rw [p1, r1] at hno
  by_cases hA : badW s.n a l1
  · rw [t2 hA, p2 hA]
  · by_cases hB : badW s.n b l2
    · rw [r2 hB, q2 hB]
    · rw [r3 hB, t3 hA, p3 hA, q3 hB]
      have hno' : ¬ (a < b + (l2.length / 64 : Nat) ∧ b < a + (l1.length / 64 : Nat)) := fun h => hno ⟨code_bad.2 hA, code_bad.2 hB, h.1, h.2⟩
      have e : wun (l2.length / 64) b.toNat l2 (wun (l1.length / 64) a.toNat l1 s.un) = wun (l1.length / 64) a.toNat l1 (wun (l2.length / 64) b.toNat l2 s.un) := by
        unfold badW at hA hB
        funext j
        simp only [wun]
        by_cases h1 : b.toNat ≤ j ∧ j < b.toNat + l2.length / 64
        · rw [if_pos h1, if_neg (by omega), if_pos h1]
        · rw [if_neg h1]
          by_cases h2 : a.toNat ≤ j ∧ j < a.toNat + l1.length / 64
          · rw [if_pos h2, if_pos h2]
          · rw [if_neg h2, if_neg h2, if_neg h1]
      simp only
      rw [e]

end Go.Proofs.Ytjkhcfdflcndkaa.D
