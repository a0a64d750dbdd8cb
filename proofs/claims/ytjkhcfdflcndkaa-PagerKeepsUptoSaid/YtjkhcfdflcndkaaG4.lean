/-
  A pager's set grows; Alloc. No condition beyond the sizes that are named.
-/
import Derived.Test.YtjkhcfdflcndkaaG3
import Derived.Test.YtjkhcfdflcndkaaD5
namespace Go.Proofs.Ytjkhcfdflcndkaa.D
open Go.RowKit Go.Maps Go.Sort Go.Shelf
set_option linter.unusedVariables false
set_option linter.unusedSimpArgs false

theorem set_few {w : World} {b m N : Nat} {D : DataW Unit} {f : Int → Bool} (hown : w.ownsMap Try.prog 3 (unitElem (H := Unit)) b m D) (hh : ∀ i : Int, Maps.has D (.int .i64 i) = f i)
    (hk : ∀ k, Maps.has D k = true → ∃ i, k = .int .i64 i) (hb : ∀ i, f i = true → 0 ≤ i ∧ i < (N : Int)) : (((List.range N).filter (fun i => f (i : Nat))).map (fun (i : Nat) => (i : Int))).Perm (intKeys D) := by
  have K : Keyed Try.prog 3 := int_keyed Try.underlying3
  obtain ⟨es0, e1, hp⟩ := hown.tidy K
  have hkey : ∀ p ∈ es0, WideAt.IsKeyLit p.1 := by
    obtain ⟨es, clock, hb, F, _, hD⟩ := hown
    rw [e1] at hD
    injection hD with hD
    intro p hpm
    rw [hD] at hpm
    have hpm := (WideShapes.sorted_perm _).mem_iff.1 hpm
    obtain ⟨key, hkk⟩ := fit_keys F p hpm
    exact K.key hkk
  subst e1
  refine perm_intKeys hp (fun p hpm => ?_) ?_ (fun x => ?_)
  · obtain ⟨i, hi⟩ := hk p.1 (by rw [has_eq, List.any_eq_true]; exact ⟨p, hpm, WideAt.sameKey_self (hkey p hpm)⟩)
    exact ⟨_, hi⟩
  · refine List.pairwise_map.2 ((List.Pairwise.filter _ List.pairwise_lt_range).imp (fun {a b} h => ?_))
    omega
  · constructor
    · intro hx
      obtain ⟨i, hi, rfl⟩ := List.mem_map.1 hx
      rw [hh i]
      exact (List.mem_filter.1 hi).2
    · intro hx
      rw [hh x] at hx
      obtain ⟨h1, h2⟩ := hb x hx
      exact List.mem_map.2 ⟨x.toNat, List.mem_filter.2 ⟨List.mem_range.2 (by omega), by rw [Int.toNat_of_nonneg h1]; exact hx⟩, Int.toNat_of_nonneg h1⟩

theorem SetAt.few {w : World} {b N : Nat} {f : Int → Bool} (h : SetAt w b f) (hb : ∀ i, f i = true → 0 ≤ i ∧ i < (N : Int)) : ∃ D, w.ownsMap Try.prog 3 (unitElem (H := Unit)) b N D ∧ (∀ i : Int, Maps.has D (.int .i64 i) = f i) ∧ ∀ k, Maps.has D k = true → ∃ i, k = .int .i64 i := by
  obtain ⟨n, D, hown, hh, hk⟩ := h
  have hperm := set_few hown hh hk hb
  refine ⟨D, ?_, hh, hk⟩
  obtain ⟨es, clock, hb', F, hm, hD⟩ := hown
  refine ⟨es, clock, hb', F, ?_, hD⟩
  have h1 := hperm.length_eq
  have h2 : (intKeys D).length = es.size := by rw [hD]; simp [intKeys, length_sorted]
  rw [← h2, ← h1, List.length_map]
  have := List.length_filter_le (fun i => f (i : Nat)) (List.range N)
  simp at *
  omega

theorem SetAt.put {w : World} {b N : Nat} {f : Int → Bool} (h : SetAt w b f) (hb : ∀ i, f i = true → 0 ≤ i ∧ i < (N : Int)) (hN : N ≤ 1000000) (k : Int) (h1 : -9223372036854775808 ≤ k) (h2 : k ≤ 9223372036854775807) :
    ∃ w', (Instr.mapUpdate 54 (.map (some b)) (.int .i64 k) (.agg #[])).run Try.prog w = .ok () w' ∧ SetAt w' b (fun i => i == k || f i) ∧ Fr (· = b) w w' := by
  have K : Keyed Try.prog 3 := int_keyed Try.underlying3
  have hkey := keyOf_int_mk (P := Try.prog) (k := 3) Try.underlying3 (a := k) (WalkArith.wf_i64 (by omega))
  obtain ⟨D, hown, hh, hks⟩ := h.few hb
  obtain ⟨w', hrun, hown', hgr⟩ := hown.update K Try.underlying54 (by unfold maxLen; omega) hkey (unitElem_mk (H := Unit))
  have hM := hown.isMap
  refine ⟨w', hrun, ⟨_, _, hown', fun i => ?_, fun kl hkl => ?_⟩, (Fr.refl _ w).grown hgr (fun i hi _ => by cases hi; rfl)⟩
  · by_cases e : i = k
    · subst e
      rw [has_put_same hM (by trivial)]
      simp
    · rw [has_put_other (by intro e2; injection e2 with _ e2; omega), hh i]
      simp [e]
  · by_cases e : kl = .int .i64 k
    · exact ⟨k, e⟩
    · rw [has_put_other e] at hkl
      exact hks kl hkl

end Go.Proofs.Ytjkhcfdflcndkaa.D
