/-
  How a world reads: a number of sectors, a script. No condition.
-/
import Derived.Test.YtcklnhjjjapfjaaArg
import Derived.Test.YtcklnhjjjapfjaaDK0
namespace Go.Proofs.Ytcklnhjjjapfjaa.D
open Go.ChangeShapes Go.WideShapes Go.ChangeAt Go.RowKit Go.Deep Go.Joins
set_option linter.unusedVariables false

instance : Inhabited OpV := ⟨⟨0, 0, 0, 0, .slice none 0 0⟩⟩

section
variable {H : Type} {enc : TypeId × Value → H} {w : World} {base : Nat} {spare : Nat → Bool} {held : Bool}

theorem op_cells : Try.prog.cellsOf 36 = 5 := by kernel_rfl

set_option maxRecDepth 100000 in
theorem open_world {b0 : Nat} {v : Value} {d : DataW H} {p : List MemPlace} (hv : Value.okWide Try.prog w .any b0 49 v) (h : DataW.Trod enc Try.prog w base spare held 49 v d p) :
    ∃ (sc : Int) (A : Option Addr) (cap : Nat) (ops : List (OpV × List Int)), v = .agg #[.int .i64 sc, .slice A ops.length cap] ∧ ScriptAt w A ops ∧
      ∃ d0 ds, d = .agg [d0, ds] ∧ ((ds = .nil ∧ ops = []) ∨ ∃ (D : Nat → DataW H) (sp : List (DataW H)), ds = .slice ((List.range ops.length).map D) sp ∧
        ∀ i q, ops[i]? = some q → ∃ e0 e1 e2 e3 dk, D i = .agg [e0, e1, e2, e3, dk] ∧ ((dk = .nil ∧ q.2 = []) ∨ ∃ sp, dk = .slice (q.2.map (fun k => .lit (.int .i64 k))) sp)) := by
  obtain ⟨v0, v1, y0, y1, n, rfl, rfl, _, g0, g1⟩ := open_agg2 Try.underlying49 (by kernel_rfl) (by kernel_rfl) hv h
  obtain ⟨sc, e0, rfl, wsc⟩ := DataW.trod_int Try.underlying3 g0
  simp only [List.cons.injEq, and_true] at e0
  subst e0
  rcases open_slice Try.underlying47 g1 with ⟨hcs, hx⟩ | ⟨a, len, cap, m, n', D, Pl, hcs, hb, hl, hm, hmm, hx, hi⟩
  · simp only [List.cons.injEq, and_true] at hcs
    subst hcs
    exact ⟨sc, none, 0, [], rfl, ⟨by simp, Or.inl rfl⟩, _, _, rfl, Or.inl ⟨by rw [hx], rfl⟩⟩
  · simp only [List.cons.injEq, and_true] at hcs
    subst hcs
    have hlm : len ≤ m := by rw [hmm]; split <;> omega
    have one : ∀ i, i < len → ∃ q : OpV × List Int, OpOk q.1 ∧ IntsV w q.1.kv q.2 ∧ (∀ j u, q.1.val.toList[j]? = some u → w.cell? (a.add (i * 5 + j)) = some u) ∧
        ∃ e0 e1 e2 e3 dk, D i = .agg [e0, e1, e2, e3, dk] ∧ ((dk = .nil ∧ q.2 = []) ∨ ∃ sp, dk = .slice (q.2.map (fun k => .lit (.int .i64 k))) sp) := fun i hlt => by
      obtain ⟨cs', hc, ht'⟩ := hi i (by omega)
      rw [op_cells] at hc
      obtain ⟨o, ks, hcs, hks, hbd, dk, hd, hdk⟩ := op_of ht'
      obtain ⟨_, hcl, hat⟩ := World.cells?_some hc
      refine ⟨(o, ks), ⟨hbd.1, hbd.2.1, hbd.2.2.1, hbd.2.2.2⟩, hks, fun j u hj => ?_, _, _, _, _, dk, hd, hdk⟩
      have hj5 : j < 5 := by
        have := (List.getElem?_eq_some_iff.1 hj).1
        simpa [OpV.val] using this
      have := hat j hj5
      rw [← add_add, this, hcs]
      exact hj
    obtain ⟨f, hf⟩ := choose_lt one
    have hL : ((List.range len).map f).length = len := by simp
    refine ⟨sc, some a, cap, (List.range len).map f, by rw [hL], ⟨by rw [hL]; unfold maxLen at hm; omega, ?_⟩, _, _, rfl, Or.inr ⟨D, _, by rw [hx, hL], fun i q hq => ?_⟩⟩
    · by_cases h0 : len = 0
      · left
        rw [h0]
        rfl
      · right
        have h1 := (hf 0 (by omega)).2.2.1 0 _ rfl
        have hsp : a.spot = none := by
          cases hs : a.spot with
          | none => rfl
          | some s =>
            exfalso
            have : (a.add (0 * 5 + 0)).spot.isSome = true := by unfold Addr.add; simp [hs]
            unfold World.cell? at h1
            split at h1
            · rw [if_pos this] at h1; cases h1
            · cases h1
        obtain ⟨b, o, sp⟩ := a
        simp only at hsp
        subst hsp
        have ead : ∀ x, (⟨b, o, none⟩ : Addr).add x = ⟨b, o + x, none⟩ := fun x => by unfold Addr.add; split <;> simp_all
        refine ⟨b, o, rfl, fun i q hq => ?_⟩
        have hil : i < len := by
          have := (List.getElem?_eq_some_iff.1 hq).1
          simpa using this
        have e : q = f i := by
          rw [List.getElem?_map, List.getElem?_range hil] at hq
          simpa using hq.symm
        subst e
        obtain ⟨k1, k2, k3, _⟩ := hf i hil
        have c0 := k3 0 _ rfl
        have c1 := k3 1 _ rfl
        have c2 := k3 2 _ rfl
        have c3 := k3 3 _ rfl
        have c4 := k3 4 _ rfl
        rw [ead] at c0 c1 c2 c3 c4
        exact ⟨k1, k2, c0, c1, c2, c3, c4⟩
    · have hil : i < len := by
        have := (List.getElem?_eq_some_iff.1 hq).1
        simpa using this
      have e : q = f i := by
        rw [List.getElem?_map, List.getElem?_range hil] at hq
        simpa using hq.symm
      subst e
      exact (hf i hil).2.2.2

end
end Go.Proofs.Ytcklnhjjjapfjaa.D
