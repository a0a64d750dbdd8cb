/-
  A set of pages, told by a function value. No condition beyond the sizes that are named.
-/
import Derived.Test.YtjkhcfdflcndkaaG6
namespace Go.Proofs.Ytjkhcfdflcndkaa.D
open Go.RowKit Go.Maps Go.Shelf
set_option linter.unusedVariables false
set_option linter.unusedSimpArgs false

/-- A function value, its captures ahead and behind, that tells c of a number. -/
def May (w : World) (F : FuncId) (pre post : Array Value) (c : Int → Bool) : Prop :=
  (∀ args w', (callFunc F args).run Try.prog w' = .ok (.enter F args) w') ∧
  ∀ (i : Int) (w' : World), -9223372036854775808 ≤ i → i ≤ 9223372036854775807 → Fr (fun i => w.heap.size ≤ i) w w' → Calls Try.prog F (pre.push (.int .i64 i) ++ post) w' fun e w'' => e = .returned (.bool (c i)) ∧ Fr (fun _ => False) w' w''

/-- Are all of them such, and no two alike? -/
def setOk (c : Int → Bool) (l : List Int) : Bool := l.all c && decide l.Nodup

/-- How many different ones there are among the first k. -/
def dist (l : List Int) : Nat → Nat
  | 0 => 0
  | k + 1 => if (l.take k).contains (l.getD k 0) then dist l k else dist l k + 1
theorem dist_le (l : List Int) : ∀ k, dist l k ≤ k
  | 0 => Nat.le_refl _
  | k + 1 => by
    have := dist_le l k
    rw [dist]
    split <;> omega
theorem take_snoc (l : List Int) (k : Nat) (h : k < l.length) : l.take (k + 1) = l.take k ++ [l.getD k 0] := by
  rw [List.take_add_one]
  simp [List.getD_eq_getElem?_getD, h]
theorem dist_nodup (l : List Int) : ∀ k, k ≤ l.length → (dist l k = k ↔ (l.take k).Nodup)
  | 0, _ => by simp [dist]
  | k + 1, h => by
    have ih := dist_nodup l k (by omega)
    have hle := dist_le l k
    rw [take_snoc l k (by omega), List.nodup_append, dist]
    by_cases hc : (l.take k).contains (l.getD k 0) = true
    · rw [if_pos hc]
      refine ⟨fun e => by omega, fun e => absurd rfl (e.2.2 _ (List.contains_iff_mem.1 hc) (l.getD k 0) (by simp))⟩
    · rw [if_neg hc]
      constructor
      · intro e
        refine ⟨ih.1 (by omega), by simp, fun a ha b hb hab => ?_⟩
        simp only [List.mem_singleton] at hb
        subst hab
        rw [hb] at ha
        exact hc (List.contains_iff_mem.2 ha)
      · intro e
        have := ih.2 e.1
        omega

end Go.Proofs.Ytjkhcfdflcndkaa.D
