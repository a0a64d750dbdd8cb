/-
  pager.set. No condition beyond the sizes that are named.
-/
import Derived.Test.YtjkhcfdflcndkaaG7
namespace Go.Proofs.Ytjkhcfdflcndkaa.D
open Go.RowKit Go.Maps Go.Shelf
set_option linter.unusedVariables false
set_option linter.unusedSimpArgs false

/-- The map in block b is this set of so many numbers. -/
def SetOf (w : World) (b : Nat) (f : Int → Bool) (z : Nat) : Prop :=
  ∃ n D, w.ownsMap Try.prog 3 (unitElem (H := Unit)) b n D ∧ (∀ i : Int, Maps.has D (.int .i64 i) = f i) ∧ (∀ k, Maps.has D k = true → ∃ i, k = .int .i64 i) ∧ Maps.size D = z

theorem SetOf.at {w : World} {b z : Nat} {f : Int → Bool} (h : SetOf w b f z) : SetAt w b f := by
  obtain ⟨n, D, h1, h2, h3, _⟩ := h
  exact ⟨n, D, h1, h2, h3⟩
theorem SetOf.keep {S : Nat → Prop} {w w' : World} {b z : Nat} {f : Int → Bool} (h : SetOf w b f z) (hf : Fr S w w') (hn : ¬ S b) : SetOf w' b f z := by
  obtain ⟨n, D, h1, h2, h3, h4⟩ := h
  exact ⟨n, D, owns_keep h1 hf hn, h2, h3, h4⟩

theorem SetOf.put {w : World} {b N z : Nat} {f : Int → Bool} (h : SetOf w b f z) (hb : ∀ i, f i = true → 0 ≤ i ∧ i < (N : Int)) (hN : N ≤ 1000000) (k : Int) (h1 : -9223372036854775808 ≤ k) (h2 : k ≤ 9223372036854775807) :
    ∃ w', (Instr.mapUpdate 54 (.map (some b)) (.int .i64 k) (.agg #[])).run Try.prog w = .ok () w' ∧ SetOf w' b (fun i => i == k || f i) (if f k then z else z + 1) ∧ Fr (· = b) w w' := by
  have K : Keyed Try.prog 3 := int_keyed Try.underlying3
  have hkey := keyOf_int_mk (P := Try.prog) (k := 3) Try.underlying3 (a := k) (WalkArith.wf_i64 (by omega))
  have hz : ∃ D, w.ownsMap Try.prog 3 (unitElem (H := Unit)) b N D ∧ (∀ i : Int, Maps.has D (.int .i64 i) = f i) ∧ (∀ k, Maps.has D k = true → ∃ i, k = .int .i64 i) ∧ Maps.size D = z := by
    obtain ⟨n, D, hown, hh, hk, hsz⟩ := h
    have hperm := set_few hown hh hk hb
    refine ⟨D, ?_, hh, hk, hsz⟩
    obtain ⟨es, clock, hb', F, hm, hD⟩ := hown
    refine ⟨es, clock, hb', F, ?_, hD⟩
    have h1 := hperm.length_eq
    have h2 : (intKeys D).length = es.size := by rw [hD]; simp [intKeys, length_sorted]
    rw [← h2, ← h1, List.length_map]
    have := List.length_filter_le (fun i => f (i : Nat)) (List.range N)
    simp at *
    omega
  obtain ⟨D, hown, hh, hks, hsz⟩ := hz
  obtain ⟨w', hrun, hown', hgr⟩ := hown.update K Try.underlying54 (by unfold maxLen; omega) hkey (unitElem_mk (H := Unit))
  have hM := hown.isMap
  refine ⟨w', hrun, ⟨_, _, hown', fun i => ?_, fun kl hkl => ?_, ?_⟩, (Fr.refl _ w).grown hgr (fun i hi _ => by cases hi; rfl)⟩
  · by_cases e : i = k
    · subst e
      rw [has_put_same hM (by trivial)]
      simp
    · rw [has_put_other (by intro e2; injection e2 with _ e2; omega), hh i]
      simp [e]
  · by_cases e : kl = .int .i64 k
    · exact ⟨k, e⟩
    · rw [has_put_other e] at hkl
      exact hks kl hkl
  · rw [size_put (hown.tidy K), hh k, hsz]

end Go.Proofs.Ytjkhcfdflcndkaa.D
