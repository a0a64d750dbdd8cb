/-
  How the disk's laws' arguments read: a call's record, a record of five numbers. No condition.
-/
import Derived.Test.YtcklnhjjjapfjaaD1
import Derived.ProofKit
import Derived.OpenShut
import Derived.Deep.Fields
import Derived.Deep.Slices
import Derived.ChangeSame
import Derived.Lib.SmallJoins
import Derived.SizedLaws
namespace Go.Proofs.Ytcklnhjjjapfjaa.D
open Go.ChangeShapes Go.WideShapes Go.ChangeAt Go.RowKit Go.Deep Go.Joins
set_option linter.unusedVariables false

section
variable {H : Type} {enc : TypeId × Value → H} {w : World} {base : Nat} {spare : Nat → Bool} {held : Bool}

theorem wf_lo {n : Int} (h : (Lit.int .i64 n).wf = true) : -9223372036854775808 ≤ n ∧ n ≤ 9223372036854775807 := by
  simp [Lit.wf, IntKind.min, IntKind.max, IntKind.bits, IntKind.signed] at h
  omega
theorem wf_byte {n : Int} (h : (Lit.int .u8 n).wf = true) : ∃ c : UInt8, n = (c.toNat : Int) := by
  simp [Lit.wf, IntKind.min, IntKind.max, IntKind.bits, IntKind.signed] at h
  refine ⟨UInt8.ofNat n.toNat, ?_⟩
  simp only [UInt8.toNat_ofNat']
  omega

theorem list5 {α : Type} : ∀ (l : List α), l.length = 5 → ∃ a b c d e, l = [a, b, c, d, e]
  | [a, b, c, d, e], _ => ⟨a, b, c, d, e, rfl⟩

/-- A struct's five one-cell fields, each read. -/
theorem five {t : TypeId} {f0 f1 f2 f3 f4 : Field} {cs : List Value} {x : DataW H × List MemPlace} {fuel : Nat} (hu : Try.prog.underlying t = some (.struct #[f0, f1, f2, f3, f4])) (hone : oneCellFields Try.prog #[f0, f1, f2, f3, f4] = true) (hC : Try.prog.cellsOf t = 5)
    (h : DataW.trod enc Try.prog w base spare held fuel t cs = some x) :
    ∃ c0 c1 c2 c3 c4 y0 y1 y2 y3 y4 n, cs = [c0, c1, c2, c3, c4] ∧ x.1 = .agg [y0.1, y1.1, y2.1, y3.1, y4.1] ∧
      DataW.trod enc Try.prog w base spare held n f0.type [c0] = some y0 ∧ DataW.trod enc Try.prog w base spare held n f1.type [c1] = some y1 ∧ DataW.trod enc Try.prog w base spare held n f2.type [c2] = some y2 ∧
      DataW.trod enc Try.prog w base spare held n f3.type [c3] = some y3 ∧ DataW.trod enc Try.prog w base spare held n f4.type [c4] = some y4 := by
  obtain ⟨ys, n', hn', hy, hlen, hyl, hfl⟩ := DataW.trod_struct hu h
  rw [hC] at hlen
  obtain ⟨c0, c1, c2, c3, c4, rfl⟩ := list5 cs hlen
  have hyl5 : ys.length = 5 := hyl
  obtain ⟨y0, y1, y2, y3, y4, rfl⟩ := list5 ys hyl5
  obtain ⟨o0, k0⟩ := hone_of hone 0 f0 rfl
  obtain ⟨o1, k1⟩ := hone_of hone 1 f1 rfl
  obtain ⟨o2, k2⟩ := hone_of hone 2 f2 rfl
  obtain ⟨o3, k3⟩ := hone_of hone 3 f3 rfl
  obtain ⟨o4, k4⟩ := hone_of hone 4 f4 rfl
  exact ⟨c0, c1, c2, c3, c4, y0, y1, y2, y3, y4, n', rfl, by rw [hy]; rfl, by simpa [o0, k0] using hfl 0 f0 rfl, by simpa [o1, k1] using hfl 1 f1 rfl, by simpa [o2, k2] using hfl 2 f2 rfl, by simpa [o3, k3] using hfl 3 f3 rfl, by simpa [o4, k4] using hfl 4 f4 rfl⟩

/-- A slice of ints in a cell. -/
theorem ints_of {n : Nat} {c : Value} {y : DataW H × List MemPlace} (h : DataW.trod enc Try.prog w base spare held n 32 [c] = some y) :
    ∃ ks, IntsV w c ks ∧ ((y.1 = .nil ∧ ks = []) ∨ ∃ sp, y.1 = .slice (ks.map (fun k => .lit (.int .i64 k))) sp) := by
  rcases open_ints Try.underlying32 Try.underlying3 (by kernel_rfl) h with ⟨hc, hx⟩ | ⟨a, len, cap, zs, hc, hb, hl, hm, hz, hx, hcell, hwf⟩
  · simp only [List.cons.injEq, and_true] at hc
    subst hc
    exact ⟨[], ⟨none, 0, rfl, by simp, Or.inl rfl⟩, Or.inl ⟨by rw [hx], rfl⟩⟩
  · simp only [List.cons.injEq, and_true] at hc
    subst hc
    have hlz : len ≤ zs.length := by rw [hz]; split <;> omega
    have hlen : (zs.take len).length = len := by rw [List.length_take]; omega
    refine ⟨zs.take len, ⟨some a, cap, by rw [hlen], by rw [hlen]; unfold maxLen at hm; omega, ?_⟩, Or.inr ⟨_, by rw [hx]; rfl⟩⟩
    by_cases h0 : len = 0
    · exact Or.inl (by rw [h0]; rfl)
    · have h1 := hcell 0 (by omega)
      have hsp : a.spot = none := by
        cases hs : a.spot with
        | none => rfl
        | some s =>
          exfalso
          have : (a.add 0).spot.isSome = true := by unfold Addr.add; simp [hs]
          unfold World.cell? at h1
          split at h1
          · rw [if_pos this] at h1; cases h1
          · cases h1
      obtain ⟨b, o, sp⟩ := a
      simp only at hsp
      subst hsp
      refine Or.inr ⟨b, o, rfl, fun j hj => ?_⟩
      rw [hlen] at hj
      have h2 := hcell j (by omega)
      have e : (⟨b, o, none⟩ : Addr).add j = ⟨b, o + j, none⟩ := by unfold Addr.add; split <;> simp_all
      rw [e] at h2
      rw [h2]
      simp [List.getD_eq_getElem?_getD, List.getElem?_take_of_lt hj]

structure OpV where
  kind : Int
  at_ : Int
  n : Int
  fill : UInt8
  kv : Value
def OpV.val (o : OpV) : Array Value := #[.int .i64 o.kind, .int .i64 o.at_, .int .i64 o.n, .int .u8 (o.fill.toNat : Int), o.kv]

/-- A call's record: what its cells say. -/
theorem op_of {n : Nat} {cs : List Value} {y : DataW H × List MemPlace} (h : DataW.trod enc Try.prog w base spare held n 36 cs = some y) :
    ∃ (o : OpV) (ks : List Int), cs = o.val.toList ∧ IntsV w o.kv ks ∧ (-9223372036854775808 ≤ o.at_ ∧ o.at_ ≤ 9223372036854775807 ∧ -9223372036854775808 ≤ o.n ∧ o.n ≤ 9223372036854775807) ∧
      ∃ dk, y.1 = .agg [.lit (.int .i64 o.kind), .lit (.int .i64 o.at_), .lit (.int .i64 o.n), .lit (.int .u8 (o.fill.toNat : Int)), dk] ∧ ((dk = .nil ∧ ks = []) ∨ ∃ sp, dk = .slice (ks.map (fun k => .lit (.int .i64 k))) sp) := by
  obtain ⟨c0, c1, c2, c3, c4, y0, y1, y2, y3, y4, m, rfl, hy, g0, g1, g2, g3, g4⟩ := five Try.underlying36 (by kernel_rfl) (by kernel_rfl) h
  obtain ⟨a, e0, rfl, wa⟩ := DataW.trod_int Try.underlying3 g0
  obtain ⟨b, e1, rfl, wb⟩ := DataW.trod_int Try.underlying3 g1
  obtain ⟨c, e2, rfl, wc⟩ := DataW.trod_int Try.underlying3 g2
  obtain ⟨f, e3, rfl, wf⟩ := DataW.trod_int Try.underlying5 g3
  obtain ⟨ks, hks, hd⟩ := ints_of g4
  obtain ⟨fb, rfl⟩ := wf_byte wf
  simp only [List.cons.injEq, and_true] at e0 e1 e2 e3
  subst e0 e1 e2 e3
  have h1 := wf_lo wb
  have h2 := wf_lo wc
  exact ⟨⟨a, b, c, fb, c4⟩, ks, rfl, hks, ⟨h1.1, h1.2, h2.1, h2.2⟩, y4.1, hy, hd⟩

set_option maxRecDepth 100000 in
theorem open_op {b0 : Nat} {v : Value} {d : DataW H} {p : List MemPlace} (hv : Value.okWide Try.prog w .any b0 36 v) (h : DataW.Trod enc Try.prog w base spare held 36 v d p) :
    ∃ (o : OpV) (ks : List Int), v = .agg o.val ∧ IntsV w o.kv ks ∧ (-9223372036854775808 ≤ o.at_ ∧ o.at_ ≤ 9223372036854775807) ∧ (-9223372036854775808 ≤ o.n ∧ o.n ≤ 9223372036854775807) ∧ True := by
  obtain ⟨cs, rfl, hsz⟩ := okWide_struct Try.underlying36 hv
  obtain ⟨fuel, hf⟩ := h
  obtain ⟨o, ks, h1, h2, h3, _⟩ := op_of hf
  refine ⟨o, ks, ?_, h2, ⟨h3.1, h3.2.1⟩, ⟨h3.2.2.1, h3.2.2.2⟩, trivial⟩
  congr 1
  apply Array.ext'
  simpa [Value.cells] using h1

structure ArmsV where
  sectors : Int
  at_ : Int
  count : Int
  step : Int
  kv : Value
def ArmsV.val (o : ArmsV) : Array Value := #[.int .i64 o.sectors, .int .i64 o.at_, .int .i64 o.count, .int .i64 o.step, o.kv]

set_option maxRecDepth 100000 in
theorem open_arms {b0 : Nat} {v : Value} {d : DataW H} {p : List MemPlace} (hv : Value.okWide Try.prog w .any b0 43 v) (h : DataW.Trod enc Try.prog w base spare held 43 v d p) :
    ∃ (o : ArmsV) (ks : List Int), v = .agg o.val ∧ IntsV w o.kv ks ∧ ((Lit.int .i64 o.sectors).wf = true ∧ (Lit.int .i64 o.at_).wf = true ∧ (Lit.int .i64 o.count).wf = true ∧ (Lit.int .i64 o.step).wf = true) ∧
      ∃ dk, d = .agg [.lit (.int .i64 o.sectors), .lit (.int .i64 o.at_), .lit (.int .i64 o.count), .lit (.int .i64 o.step), dk] ∧ ((dk = .nil ∧ ks = []) ∨ ∃ sp, dk = .slice (ks.map (fun k => .lit (.int .i64 k))) sp) := by
  obtain ⟨cs, rfl, hsz⟩ := okWide_struct Try.underlying43 hv
  obtain ⟨fuel, hf⟩ := h
  obtain ⟨c0, c1, c2, c3, c4, y0, y1, y2, y3, y4, m, hc, hy, g0, g1, g2, g3, g4⟩ := five Try.underlying43 (by kernel_rfl) (by kernel_rfl) hf
  obtain ⟨a, e0, rfl, wa⟩ := DataW.trod_int Try.underlying3 g0
  obtain ⟨b, e1, rfl, wb⟩ := DataW.trod_int Try.underlying3 g1
  obtain ⟨c, e2, rfl, wc⟩ := DataW.trod_int Try.underlying3 g2
  obtain ⟨f, e3, rfl, wf⟩ := DataW.trod_int Try.underlying3 g3
  obtain ⟨ks, hks, hd⟩ := ints_of g4
  simp only [List.cons.injEq, and_true] at e0 e1 e2 e3
  subst e0 e1 e2 e3
  refine ⟨⟨a, b, c, f, c4⟩, ks, ?_, hks, ⟨wa, wb, wc, wf⟩, y4.1, hy, hd⟩
  congr 1
  apply Array.ext'
  simpa [Value.cells, ArmsV.val] using hc

theorem arms_sized {ts : List TypeId} {ds : List (DataW H)} (h : (DataW.weightsEach Try.prog ts ds).all (· ≤ reachBytes) = true) {d0 d1 d2 d3 dk : DataW H} {ks : List Int} (ht : ts[0]? = some 43) (hd : ds[0]? = some (.agg [d0, d1, d2, d3, dk]))
    (hk : (dk = .nil ∧ ks = []) ∨ ∃ sp, dk = .slice (ks.map (fun k => .lit (.int .i64 k))) sp) : ks.length * 8 ≤ 140737488355328 := by
  rcases hk with ⟨_, rfl⟩ | ⟨sp, rfl⟩
  · simp
  have hw : DataW.weights Try.prog 43 (.agg [d0, d1, d2, d3, .slice (ks.map (fun k => DataW.lit (.int .i64 k))) sp] : DataW H) = DataW.weightsEach Try.prog [3, 3, 3, 3, 32] [d0, d1, d2, d3, .slice (ks.map (fun k => DataW.lit (.int .i64 k))) sp] := by
    rw [DataW.weights, Try.underlying43]
    rfl
  have hb : Try.prog.bytesOf 3 = 8 := by kernel_rfl
  have hr : reachBytes = 140737488351232 := by kernel_rfl
  have h1 : (ks.length + sp.length) * 8 ∈ DataW.weights Try.prog 32 (.slice (ks.map (fun k => DataW.lit (.int .i64 k))) sp : DataW H) := by
    rw [DataW.weights, Try.underlying32]
    simp [hb]
  have h2 := DataW.weights_mem_each (P := Try.prog) (ts := [3, 3, 3, 3, 32]) (ds := [d0, d1, d2, d3, .slice (ks.map (fun k => DataW.lit (.int .i64 k))) sp]) (j := 4) rfl rfl _ h1
  rw [← hw] at h2
  have h3 := List.all_eq_true.1 h _ (DataW.weights_mem_each ht hd _ h2)
  simp only [decide_eq_true_eq, hr] at h3
  omega

end
end Go.Proofs.Ytcklnhjjjapfjaa.D
