/-
  How the keys' laws' arguments read: a slice of parts, a part by value; and a world for the rows' witnesses, in which the two listed tables stand. No condition.
-/
import Derived.Test.YtpimfioeeipnhaaDoorCards
import Derived.Test.YtpimfioeeipnhaaDoorTie
import Derived.Test.YtpimfioeeipnhaaDoorSpecA
import Derived.WalkKit
import Derived.ProofKit
import Derived.OpenShut
import Derived.Deep.DeepHandedRow
import Derived.Lib.LaidTab
import Derived.Deep.Slices
import Derived.Deep.Fields
import Derived.ChangeSame
import Derived.Lib.SmallJoins
import Derived.Below
import Derived.SizedLaws
namespace Go.Proofs.YtpimfioeeipnhaaDoor.Args
open Go.ChangeShapes Go.WideShapes Go.ChangeAt Go.RowKit Go.Deep Go.Joins Go.Proofs.YtpimfioeeipnhaaDoor.Pl Go.Proofs.YtpimfioeeipnhaaDoorW.PrintWords Go.Proofs.YtpimfioeeipnhaaDoorW.PrintMore Go.Proofs.YtpimfioeeipnhaaDoorW.PrintLast
set_option linter.unusedVariables false

theorem own : ownKnob Tryd.prog.godebug = none := by kernel_rfl
theorem laidOut : laidOutB Tryd.prog = true := by kernel_rfl

instance : Inhabited Part := ⟨Go.Proofs.YtpimfioeeipnhaaDoor.K.z34⟩

def datum (H : Type) (p : Part) : DataW H := .agg [.lit (.int .i64 p.f0), .lit (.int .i64 p.f1), .lit (.int .u64 p.f2), .lit (.string p.f3.data.toList)]

section
variable {H : Type} {enc : TypeId × Value → H} {w : World} {base : Nat} {spare : Nat → Bool} {held : Bool}

theorem wf_i64 {n : Int} (h : (Lit.int .i64 n).wf = true) : -9223372036854775808 ≤ n ∧ n ≤ 9223372036854775807 := by
  simp [Lit.wf, IntKind.min, IntKind.max, IntKind.bits, IntKind.signed] at h
  omega
theorem wf_u64 {n : Int} (h : (Lit.int .u64 n).wf = true) : 0 ≤ n ∧ n < 18446744073709551616 := by
  simp [Lit.wf, IntKind.min, IntKind.max, IntKind.bits, IntKind.signed] at h
  omega

/-- A part's four cells, each read: the part. -/
theorem part_of {n : Nat} {c0 c1 c2 c3 : Value} {y0 y1 y2 y3 : DataW H × List MemPlace}
    (h0 : DataW.trod enc Tryd.prog w base spare held n 3 [c0] = some y0) (h1 : DataW.trod enc Tryd.prog w base spare held n 3 [c1] = some y1)
    (h2 : DataW.trod enc Tryd.prog w base spare held n 32 [c2] = some y2) (h3 : DataW.trod enc Tryd.prog w base spare held n 9 [c3] = some y3) :
    ∃ p : Part, c0 = .int .i64 p.f0 ∧ c1 = .int .i64 p.f1 ∧ c2 = .int .u64 p.f2 ∧ c3 = .string p.f3 ∧ WF p ∧ DataW.agg [y0.1, y1.1, y2.1, y3.1] = datum H p := by
  obtain ⟨a, e0, rfl, wa⟩ := DataW.trod_int Tryd.underlying3 h0
  obtain ⟨b, e1, rfl, wb⟩ := DataW.trod_int Tryd.underlying3 h1
  obtain ⟨c, e2, rfl, wc⟩ := DataW.trod_int Tryd.underlying32 h2
  obtain ⟨s, e3, rfl, ws⟩ := DataW.trod_string Tryd.underlying9 h3
  simp only [List.cons.injEq, and_true] at e0 e1 e2 e3
  have ba := wf_i64 wa
  have bb := wf_i64 wb
  have bc := wf_u64 wc
  exact ⟨⟨a, b, c, s⟩, e0, e1, e2, e3, ⟨ba.1, ba.2, bb.1, bb.2, bc.1, bc.2⟩, rfl⟩

theorem part_type : ∃ f0 f1 f2 f3 : Field, Tryd.prog.underlying 34 = some (.struct #[f0, f1, f2, f3]) ∧ f0.type = 3 ∧ f1.type = 3 ∧ f2.type = 32 ∧ f3.type = 9 ∧ oneCellFields Tryd.prog #[f0, f1, f2, f3] = true :=
  ⟨_, _, _, _, Tryd.underlying34, rfl, rfl, rfl, rfl, by kernel_rfl⟩
theorem part_cells : Tryd.prog.cellsOf 34 = 4 := by kernel_rfl

/-- A slice of parts. -/
theorem open_parts {b0 : Nat} {v : Value} {d : DataW H} {p : List MemPlace} (hv : Value.okWide Tryd.prog w .any b0 22 v) (h : DataW.Trod enc Tryd.prog w base spare held 22 v d p) :
    ∃ (A : Option Addr) (l : List Part) (c : Nat), v = .slice A l.length c ∧ l.length ≤ c ∧ c ≤ maxLen ∧ Kd.C Go.Proofs.YtpimfioeeipnhaaDoor.K.k34 w A l.length l ∧ (∀ p ∈ l, WF p) ∧
      ((d = .nil ∧ l = []) ∨ ∃ sp, d = .slice (l.map (datum H)) sp) := by
  obtain ⟨a0, len, cap, rfl⟩ := okWide_slice Tryd.underlying22 hv
  obtain ⟨fuel, hf⟩ := h
  obtain ⟨f0, f1, f2, f3, hu, t0, t1, t2, t3, hone⟩ := part_type
  rcases open_slice Tryd.underlying22 hf with ⟨hcs, hx⟩ | ⟨a, len', cap', m, n, D, Pl, hcs, hb, hl, hm, hmm, hx, hi⟩
  · simp [Value.cells] at hcs
    obtain ⟨rfl, rfl, rfl⟩ := hcs
    injection hx with hx1 hx2
    exact ⟨none, [], 0, rfl, Nat.le_refl _, Nat.zero_le _, ⟨rfl, by simp, fun h => by simp at h⟩, fun p hp => by simp at hp, .inl ⟨hx1, rfl⟩⟩
  · simp [Value.cells] at hcs
    obtain ⟨rfl, rfl, rfl⟩ := hcs
    have hlm : len ≤ m := by rw [hmm]; split <;> omega
    have one : ∀ i, i < len → ∃ q : Part, WF q ∧ D i = datum H q ∧ ∀ j u, [Value.int .i64 q.f0, .int .i64 q.f1, .int .u64 q.f2, .string q.f3][j]? = some u → w.cell? (a.add (i * 4 + j)) = some u := fun i hlt => by
      obtain ⟨cs', hc, ht'⟩ := hi i (by omega)
      rw [part_cells] at hc
      obtain ⟨ys, n', hn', hy, hlen, hyl, hfl⟩ := DataW.trod_struct hu ht'
      obtain ⟨_, hcl, hat⟩ := World.cells?_some hc
      have hlen4 : cs'.length = 4 := hcl
      match cs', hlen4 with
      | [c0, c1, c2, c3], _ =>
        obtain ⟨o0, k0⟩ := hone_of hone 0 f0 rfl
        obtain ⟨o1, k1⟩ := hone_of hone 1 f1 rfl
        obtain ⟨o2, k2⟩ := hone_of hone 2 f2 rfl
        obtain ⟨o3, k3⟩ := hone_of hone 3 f3 rfl
        have hyl4 : ys.length = 4 := hyl
        match ys, hyl4 with
        | [y0, y1, y2, y3], _ =>
          have g0 : DataW.trod enc Tryd.prog w base spare held n' f0.type [c0] = some y0 := by simpa [o0, k0] using hfl 0 f0 rfl
          have g1 : DataW.trod enc Tryd.prog w base spare held n' f1.type [c1] = some y1 := by simpa [o1, k1] using hfl 1 f1 rfl
          have g2 : DataW.trod enc Tryd.prog w base spare held n' f2.type [c2] = some y2 := by simpa [o2, k2] using hfl 2 f2 rfl
          have g3 : DataW.trod enc Tryd.prog w base spare held n' f3.type [c3] = some y3 := by simpa [o3, k3] using hfl 3 f3 rfl
          rw [t0] at g0; rw [t1] at g1; rw [t2] at g2; rw [t3] at g3
          obtain ⟨q, rfl, rfl, rfl, rfl, wq, hq⟩ := part_of g0 g1 g2 g3
          simp only [Prod.mk.injEq] at hy
          refine ⟨q, wq, ?_, fun j u hj => ?_⟩
          · rw [hy.1]; exact hq
          · have hj4 : j < 4 := by
              have := (List.getElem?_eq_some_iff.mp hj).1
              simpa using this
            have := hat j hj4
            rw [← Go.Deep.add_add, this]
            exact hj
    obtain ⟨f, hf'⟩ := choose_lt one
    have hL : ((List.range len).map f).length = len := by simp
    refine ⟨some a, (List.range len).map f, cap, by rw [hL], by rw [hL]; exact hl, hm, ⟨rfl, ?_, fun _ => ⟨a, rfl, fun j q hj => ?_⟩⟩, fun q hq => ?_, .inr ⟨(List.range (m - len)).map (fun j => D (len + j)), ?_⟩⟩
    · have : len ≤ maxLen := Nat.le_trans hl hm
      unfold maxLen at this
      simpa using this
    · have hjl : j < len := by
        have := (List.getElem?_eq_some_iff.mp hj).1
        simpa using this
      have e : q = f j := by
        rw [List.getElem?_map, List.getElem?_range hjl] at hj
        simpa using hj.symm
      subst e
      obtain ⟨_, _, hc⟩ := hf' j hjl
      exact ⟨_, rfl, Go.Proofs.YtpimfioeeipnhaaDoor.K.k34_mk w (f j), fun i u hu => hc i u hu⟩
    · obtain ⟨j, hj, rfl⟩ := List.mem_map.mp hq
      exact (hf' j (List.mem_range.mp hj)).1
    · simp only [Prod.mk.injEq] at hx
      rw [hx.1]
      congr 1
      rw [List.map_map]
      exact List.map_congr_left fun j hj => (hf' j (List.mem_range.mp hj)).2.1

/-- A part by value. -/
theorem open_part {b0 : Nat} {v : Value} {d : DataW H} {p : List MemPlace} (hv : Value.okWide Tryd.prog w .any b0 34 v) (h : DataW.Trod enc Tryd.prog w base spare held 34 v d p) :
    ∃ q : Part, v = .agg #[.int .i64 q.f0, .int .i64 q.f1, .int .u64 q.f2, .string q.f3] ∧ WF q ∧ d = datum H q := by
  obtain ⟨c0, c1, c2, c3, y0, y1, y2, y3, m, rfl, rfl, rfl, g0, g1, g2, g3⟩ := open_agg4 Tryd.underlying34 (by kernel_rfl) part_cells hv h
  obtain ⟨q, rfl, rfl, rfl, rfl, wq, hq⟩ := part_of g0 g1 g2 g3
  exact ⟨q, rfl, wq, hq⟩
end

/-! the bound of the second form -/
theorem one_le {H : Type} (d : DataW H) : 1 ≤ Rows.uptoBulk d := by
  cases d with
  | lit l => cases l <;> simp [Rows.uptoBulk]
  | _ => simp [Rows.uptoBulk]
theorem length_le {H : Type} (l : List (DataW H)) : l.length ≤ Rows.uptoBulkAll l := by
  induction l with
  | nil => simp [Rows.uptoBulkAll]
  | cons x r ih => have := one_le x; simp only [Rows.uptoBulkAll, List.length_cons]; omega

/-! a world for the witness -/
def flat0 : DataW Unit → List Value
  | .lit (.int k n) => [.int k n]
  | _ => []
def flat1 : DataW Unit → List Value
  | .lit (.int k n) => [.int k n]
  | .agg l => l.flatMap flat0
  | _ => []
def flat : DataW Unit → List Value
  | .lit (.int k n) => [.int k n]
  | .agg l => l.flatMap flat1
  | _ => []
def laid1 (d : DataW Unit) : Obj → Obj
  | .cells _ t frozen => .cells (flat d).toArray t frozen
  | o => o
noncomputable def laidWorld (os : Os) : World :=
  { World.holding Tryd.prog os ⟨#[], #[], []⟩ with heap := ((World.holding Tryd.prog os ⟨#[], #[], []⟩).heap.modify 2 (laid1 Rows.laid_unicode_utf8_first)).modify 3 (laid1 Rows.laid_unicode_utf8_acceptRanges) }

end Go.Proofs.YtpimfioeeipnhaaDoor.Args
