/-
  Write, Read: all their cases; two disks beside one another.
-/
import Derived.Test.YtjkhcfdflcndkaaD8
import Derived.Test.YtjkhcfdflcndkaaD9
import Derived.Test.YtjkhcfdflcndkaaDR
import Derived.Test.YtjkhcfdflcndkaaDF
namespace Go.Proofs.Ytjkhcfdflcndkaa.D
open Go.RowKit Go.Maps Go.Shelf
set_option linter.unusedVariables false
set_option linter.unusedSimpArgs false

theorem write_c (w : World) (g bm : Nat) (s : St) (h : At w g bm s) (hs : s.Ok) (a : Int) (ha : -9223372036854775808 ≤ a) (ha2 : a ≤ 9223372036854775807) (l : List UInt8) (hl : l.length ≤ 9223372036854775807) : WriteC w g bm s a l := by
  cases hd : s.dead with
  | true => exact write_dead w g bm s h hs a l hl hd
  | false =>
    by_cases hm : l.length % 64 = 0
    · by_cases hat : a < 0 ∨ (s.n : Int) < a ∨ (s.n : Int) - a < (l.length / 64 : Nat)
      · exact write_at w g bm s h hs a ha ha2 l hl hd hm hat
      · obtain ⟨A, rfl⟩ : ∃ A : Nat, a = A := ⟨a.toNat, by omega⟩
        exact write_go w g bm s h hs A l hd hm (by omega)
    · exact write_long w g bm s h hs a l hl hd hm

theorem read_c (w : World) (g bm : Nat) (s : St) (h : At w g bm s) (hs : s.Ok) (a c : Int) (ha : -9223372036854775808 ≤ a) (ha2 : a ≤ 9223372036854775807) : ReadC w g s a c := by
  cases hd : s.dead with
  | true => exact read_dead w g bm s h a c hd
  | false =>
    by_cases hat : a < 0 ∨ c < 0 ∨ (s.n : Int) < a ∨ (s.n : Int) - a < c
    · exact read_at w g bm s h hs a c ha ha2 hd hat
    · obtain ⟨A, rfl⟩ : ∃ A : Nat, a = A := ⟨a.toNat, by omega⟩
      obtain ⟨C, rfl⟩ : ∃ C : Nat, c = C := ⟨c.toNat, by omega⟩
      exact read_go w g bm s h hs A C hd (by omega)

/-- A slice of ints stays while a disk turns. -/
theorem IntsAt.beside {w w' : World} {g bm : Nat} {s : St} {v : Value} {ks : List Int} (h : IntsAt w v ks) (hd : At w g bm s) (hf : Fr (fun i => i = g ∨ i = bm) w w') : IntsAt w' v ks := by
  refine h.keep hf (fun b cur hb e => ?_)
  obtain ⟨⟨kv, h1, _⟩, m, D, ⟨es, clock, h2, _⟩, _⟩ := hd
  rcases e with e | e
  · subst e; rw [h1] at hb; cases hb
  · subst e; rw [h2] at hb; cases hb

/-- A disk stays while another one turns. -/
theorem At.beside {w w' : World} {g bm g' bm' : Nat} {s s' : St} (h : At w g' bm' s') (hd : At w g bm s) (hf : Fr (fun i => i = g ∨ i = bm) w w') (h1 : g' ≠ g) (h2 : bm' ≠ bm) : At w' g' bm' s' := by
  obtain ⟨⟨kv, a1, a2⟩, m, D, a3, a4⟩ := h
  have hd' := hd
  obtain ⟨⟨kv', b1, _⟩, m', D', ⟨es', clock', b2, _⟩, _⟩ := hd'
  have n1 : g' ≠ bm := by rintro rfl; rw [a1] at b2; cases b2
  have n2 : bm' ≠ g := by
    obtain ⟨es, clock, c2, _⟩ := a3
    rintro rfl; rw [b1] at c2; cases c2
  exact ⟨⟨kv, hf.at a1 (by rintro (e | e); exact h1 e; exact n1 e), a2.beside hd hf⟩, m, D, owns_keep a3 hf (by rintro (e | e); exact n2 e; exact h2 e), a4⟩

/-- Numbers in a new row. -/
theorem ints_new (w : World) (ks : List Int) (h : ks.length ≤ 9223372036854775807) : IntsAt (w.alloc (.cells (ks.map (Value.int .i64)).toArray 3)) (.slice (some ⟨w.heap.size, 0, none⟩) ks.length ks.length) ks := by
  refine ⟨_, _, rfl, h, Or.inr ⟨w.heap.size, 0, _, rfl, (MapKept.heap_alloc w _).1, fun j hj => ?_⟩, fun x hx => by cases hx; rfl⟩
  simp [hj, List.getD_eq_getElem?_getD]

end Go.Proofs.Ytjkhcfdflcndkaa.D
