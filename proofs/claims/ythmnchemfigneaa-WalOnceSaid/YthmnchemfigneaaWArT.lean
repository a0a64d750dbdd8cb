/-
  How two numbers and two records read. No condition.
-/
import Derived.Test.YthmnchemfigneaaWAr
namespace Go.Proofs.Ythmnchemfigneaa.D
open Go.ChangeShapes Go.WideShapes Go.ChangeAt Go.RowKit Go.Deep Go.Joins
set_option linter.unusedVariables false
section
variable {H : Type} {enc : TypeId × Value → H} {w : World} {base : Nat} {spare : Nat → Bool} {held : Bool}
set_option maxRecDepth 100000 in
theorem open_two {b0 : Nat} {v : Value} {d : DataW H} {p : List MemPlace} (hv : Value.okWide Try.prog w .any b0 28 v) (h : DataW.Trod enc Try.prog w base spare held 28 v d p) :
    ∃ (n m : Int) (r s : List UInt8), v = .agg #[.int .i64 n, .int .i64 m, .string (bs r), .string (bs s)] ∧ r.length ≤ 9223372036854775807 ∧ s.length ≤ 9223372036854775807 := by
  obtain ⟨v0, v1, v2, v3, y0, y1, y2, y3, n, rfl, rfl, _, g0, g1, g2, g3⟩ := open_agg4 Try.underlying28 (by kernel_rfl) (by kernel_rfl) hv h
  obtain ⟨a, e0, rfl, wa⟩ := DataW.trod_int Try.underlying3 g0
  obtain ⟨b, e1, rfl, wb⟩ := DataW.trod_int Try.underlying3 g1
  obtain ⟨r, e2, rfl, wr⟩ := DataW.trod_string Try.underlying9 g2
  obtain ⟨s, e3, rfl, ws⟩ := DataW.trod_string Try.underlying9 g3
  simp only [List.cons.injEq, and_true] at e0 e1 e2 e3
  subst e0 e1 e2 e3
  exact ⟨a, b, r.data.toList, s.data.toList, by rw [← bs_of r, ← bs_of s], bs_len r wr, bs_len s ws⟩
end
end Go.Proofs.Ythmnchemfigneaa.D
