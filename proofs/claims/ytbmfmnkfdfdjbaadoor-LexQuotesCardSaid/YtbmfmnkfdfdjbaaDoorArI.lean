/-
  How a slice of numbers that came in reads. No condition.
-/
import Derived.Test.YtbmfmnkfdfdjbaaDoorT7
import Derived.Test.YtbmfmnkfdfdjbaaDoorAr
import Derived.ChangeSlices
namespace Go.Proofs.YtbmfmnkfdfdjbaaDoor.D
open Go.ChangeShapes Go.WideShapes Go.ChangeAt Go.RowKit Go.Deep Go.Joins
set_option linter.unusedVariables false

section
variable {H : Type} {enc : TypeId × Value → H} {w : World} {base : Nat} {spare : Nat → Bool} {held : Bool}
set_option maxRecDepth 100000 in
theorem open_iv {b0 : Nat} {v : Value} {d : DataW H} {p : List MemPlace} (hv : Value.okWide Tryd.prog w .any b0 22 v) (h : DataW.Trod enc Tryd.prog w base spare held 22 v d p) :
    ∃ (A : Option Addr) (l : List Int) (c : Nat), v = .slice A l.length c ∧ IV w (.slice A l.length c) l ∧ (∀ k ∈ l, -9223372036854775808 ≤ k ∧ k ≤ 9223372036854775807) := by
  obtain ⟨a0, len, cap, rfl⟩ := okWide_slice Tryd.underlying22 hv
  obtain ⟨fuel, hf⟩ := h
  rcases open_ints Tryd.underlying22 Tryd.underlying3 (by kernel_rfl) hf with ⟨hc, hx⟩ | ⟨a, len', cap', zs, hc, hb, hl, hm, hz, hx, hcell, hwf⟩
  · simp [Value.cells] at hc
    obtain ⟨rfl, rfl, rfl⟩ := hc
    exact ⟨none, [], 0, rfl, ⟨none, 0, rfl, by simp, by omega, Or.inl rfl⟩, fun k hk => by cases hk⟩
  · simp [Value.cells] at hc
    obtain ⟨rfl, rfl, rfl⟩ := hc
    have hlz : len ≤ zs.length := by rw [hz]; split <;> omega
    have hlen : (zs.take len).length = len := by rw [List.length_take]; omega
    refine ⟨some a, zs.take len, cap, by rw [hlen], ⟨some a, cap, by rw [hlen], by rw [hlen]; exact hl, by unfold maxLen at hm; omega, ?_⟩, fun k hk => wf_i64 (hwf k (List.mem_of_mem_take hk))⟩
    by_cases h0 : len = 0
    · exact Or.inl (by rw [h0]; rfl)
    · have h1 := hcell 0 (by omega)
      have hsp : a.spot = none := by
        cases hs : a.spot with
        | none => rfl
        | some s =>
          exfalso
          have : (a.add 0).spot.isSome = true := by unfold Addr.add; simp [hs]
          unfold World.cell? at h1
          split at h1
          · rw [if_pos this] at h1; cases h1
          · cases h1
      obtain ⟨b, o, sp⟩ := a
      simp only at hsp
      subst hsp
      refine Or.inr ⟨b, o, rfl, fun j hj => ?_⟩
      rw [hlen] at hj
      have h2 := hcell j (by omega)
      have e : (⟨b, o, none⟩ : Addr).add j = ⟨b, o + j, none⟩ := by unfold Addr.add; split <;> simp_all
      rw [e] at h2
      rw [h2]
      simp [List.getD_eq_getElem?_getD, List.getElem?_take_of_lt hj]
end

end Go.Proofs.YtbmfmnkfdfdjbaaDoor.D
