/-
  How a world of the log's laws reads: an image, an area, a number, a script. No condition.
-/
import Derived.Test.YthmnchemfigneaaGreatWAr
import Derived.Test.YthmnchemfigneaaGreatDK0
namespace Go.Proofs.YthmnchemfigneaaGreat.D
open Go.ChangeShapes Go.WideShapes Go.ChangeAt Go.RowKit Go.Deep Go.Joins
set_option linter.unusedVariables false

section
variable {H : Type} {enc : TypeId × Value → H} {w : World} {base : Nat} {spare : Nat → Bool} {held : Bool}

theorem wf_lo {n : Int} (h : (Lit.int .i64 n).wf = true) : -9223372036854775808 ≤ n ∧ n ≤ 9223372036854775807 := by
  simp [Lit.wf, IntKind.min, IntKind.max, IntKind.bits, IntKind.signed] at h
  omega
theorem wf_byte {n : Int} (h : (Lit.int .u8 n).wf = true) : ∃ c : UInt8, n = (c.toNat : Int) := by
  simp [Lit.wf, IntKind.min, IntKind.max, IntKind.bits, IntKind.signed] at h
  refine ⟨UInt8.ofNat n.toNat, ?_⟩
  simp only [UInt8.toNat_ofNat']
  omega

theorem list5 {α : Type} : ∀ (l : List α), l.length = 5 → ∃ a b c d e, l = [a, b, c, d, e]
  | [a, b, c, d, e], _ => ⟨a, b, c, d, e, rfl⟩

/-- A struct's five one-cell fields, each read. -/
theorem five {t : TypeId} {f0 f1 f2 f3 f4 : Field} {cs : List Value} {x : DataW H × List MemPlace} {fuel : Nat} (hu : Tryz.prog.underlying t = some (.struct #[f0, f1, f2, f3, f4])) (hone : oneCellFields Tryz.prog #[f0, f1, f2, f3, f4] = true) (hC : Tryz.prog.cellsOf t = 5)
    (h : DataW.trod enc Tryz.prog w base spare held fuel t cs = some x) :
    ∃ c0 c1 c2 c3 c4 y0 y1 y2 y3 y4 n, cs = [c0, c1, c2, c3, c4] ∧ x.1 = .agg [y0.1, y1.1, y2.1, y3.1, y4.1] ∧
      DataW.trod enc Tryz.prog w base spare held n f0.type [c0] = some y0 ∧ DataW.trod enc Tryz.prog w base spare held n f1.type [c1] = some y1 ∧ DataW.trod enc Tryz.prog w base spare held n f2.type [c2] = some y2 ∧
      DataW.trod enc Tryz.prog w base spare held n f3.type [c3] = some y3 ∧ DataW.trod enc Tryz.prog w base spare held n f4.type [c4] = some y4 := by
  obtain ⟨ys, n', hn', hy, hlen, hyl, hfl⟩ := DataW.trod_struct hu h
  rw [hC] at hlen
  obtain ⟨c0, c1, c2, c3, c4, rfl⟩ := list5 cs hlen
  have hyl5 : ys.length = 5 := hyl
  obtain ⟨y0, y1, y2, y3, y4, rfl⟩ := list5 ys hyl5
  obtain ⟨o0, k0⟩ := hone_of hone 0 f0 rfl
  obtain ⟨o1, k1⟩ := hone_of hone 1 f1 rfl
  obtain ⟨o2, k2⟩ := hone_of hone 2 f2 rfl
  obtain ⟨o3, k3⟩ := hone_of hone 3 f3 rfl
  obtain ⟨o4, k4⟩ := hone_of hone 4 f4 rfl
  exact ⟨c0, c1, c2, c3, c4, y0, y1, y2, y3, y4, n', rfl, by rw [hy]; rfl, by simpa [o0, k0] using hfl 0 f0 rfl, by simpa [o1, k1] using hfl 1 f1 rfl, by simpa [o2, k2] using hfl 2 f2 rfl, by simpa [o3, k3] using hfl 3 f3 rfl, by simpa [o4, k4] using hfl 4 f4 rfl⟩

/-- A slice of ints in a cell. -/
theorem ints_of {n : Nat} {c : Value} {y : DataW H × List MemPlace} (h : DataW.trod enc Tryz.prog w base spare held n 37 [c] = some y) :
    ∃ ks, IntsV w c ks ∧ ((y.1 = .nil ∧ ks = []) ∨ ∃ sp, y.1 = .slice (ks.map (fun k => .lit (.int .i64 k))) sp) := by
  rcases open_ints Tryz.underlying37 Tryz.underlying3 (by kernel_rfl) h with ⟨hc, hx⟩ | ⟨a, len, cap, zs, hc, hb, hl, hm, hz, hx, hcell, hwf⟩
  · simp only [List.cons.injEq, and_true] at hc
    subst hc
    exact ⟨[], ⟨none, 0, rfl, by simp, Or.inl rfl⟩, Or.inl ⟨by rw [hx], rfl⟩⟩
  · simp only [List.cons.injEq, and_true] at hc
    subst hc
    have hlz : len ≤ zs.length := by rw [hz]; split <;> omega
    have hlen : (zs.take len).length = len := by rw [List.length_take]; omega
    refine ⟨zs.take len, ⟨some a, cap, by rw [hlen], by rw [hlen]; unfold maxLen at hm; omega, ?_⟩, Or.inr ⟨_, by rw [hx]; rfl⟩⟩
    by_cases h0 : len = 0
    · exact Or.inl (by rw [h0]; rfl)
    · have h1 := hcell 0 (by omega)
      have hsp : a.spot = none := by
        cases hs : a.spot with
        | none => rfl
        | some s =>
          exfalso
          have : (a.add 0).spot.isSome = true := by unfold Addr.add; simp [hs]
          unfold World.cell? at h1
          split at h1
          · rw [if_pos this] at h1; cases h1
          · cases h1
      obtain ⟨b, o, sp⟩ := a
      simp only at hsp
      subst hsp
      refine Or.inr ⟨b, o, rfl, fun j hj => ?_⟩
      rw [hlen] at hj
      have h2 := hcell j (by omega)
      have e : (⟨b, o, none⟩ : Addr).add j = ⟨b, o + j, none⟩ := by unfold Addr.add; split <;> simp_all
      rw [e] at h2
      rw [h2]
      simp [List.getD_eq_getElem?_getD, List.getElem?_take_of_lt hj]

theorem list4 {α : Type} : ∀ (l : List α), l.length = 4 → ∃ a b c d, l = [a, b, c, d]
  | [a, b, c, d], _ => ⟨a, b, c, d, rfl⟩
/-- A struct's four one-cell fields, each read. -/
theorem four {t : TypeId} {f0 f1 f2 f3 : Field} {cs : List Value} {x : DataW H × List MemPlace} {fuel : Nat} (hu : Tryz.prog.underlying t = some (.struct #[f0, f1, f2, f3])) (hone : oneCellFields Tryz.prog #[f0, f1, f2, f3] = true) (hC : Tryz.prog.cellsOf t = 4)
    (h : DataW.trod enc Tryz.prog w base spare held fuel t cs = some x) :
    ∃ c0 c1 c2 c3 y0 y1 y2 y3 n, cs = [c0, c1, c2, c3] ∧ x.1 = .agg [y0.1, y1.1, y2.1, y3.1] ∧
      DataW.trod enc Tryz.prog w base spare held n f0.type [c0] = some y0 ∧ DataW.trod enc Tryz.prog w base spare held n f1.type [c1] = some y1 ∧ DataW.trod enc Tryz.prog w base spare held n f2.type [c2] = some y2 ∧
      DataW.trod enc Tryz.prog w base spare held n f3.type [c3] = some y3 := by
  obtain ⟨ys, n', hn', hy, hlen, hyl, hfl⟩ := DataW.trod_struct hu h
  rw [hC] at hlen
  obtain ⟨c0, c1, c2, c3, rfl⟩ := list4 cs hlen
  have hyl5 : ys.length = 4 := hyl
  obtain ⟨y0, y1, y2, y3, rfl⟩ := list4 ys hyl5
  obtain ⟨o0, k0⟩ := hone_of hone 0 f0 rfl
  obtain ⟨o1, k1⟩ := hone_of hone 1 f1 rfl
  obtain ⟨o2, k2⟩ := hone_of hone 2 f2 rfl
  obtain ⟨o3, k3⟩ := hone_of hone 3 f3 rfl
  exact ⟨c0, c1, c2, c3, y0, y1, y2, y3, n', rfl, by rw [hy]; rfl, by simpa [o0, k0] using hfl 0 f0 rfl, by simpa [o1, k1] using hfl 1 f1 rfl, by simpa [o2, k2] using hfl 2 f2 rfl, by simpa [o3, k3] using hfl 3 f3 rfl⟩

structure OpV where
  kind : Int
  n : Int
  text : List UInt8
  kv : Value
def OpV.val (o : OpV) : Array Value := #[.int .i64 o.kind, .int .i64 o.n, .string (bs o.text), o.kv]
instance : Inhabited OpV := ⟨⟨0, 0, [], .slice none 0 0⟩⟩
structure OpOk (o : OpV) : Prop where
  n1 : -9223372036854775808 ≤ o.n
  n2 : o.n ≤ 9223372036854775807
  rl : o.text.length ≤ 9223372036854775807

/-- A call's record: what its cells say. -/
theorem op_of {n : Nat} {cs : List Value} {y : DataW H × List MemPlace} (h : DataW.trod enc Tryz.prog w base spare held n 39 cs = some y) :
    ∃ (o : OpV) (ks : List Int), cs = o.val.toList ∧ IntsV w o.kv ks ∧ OpOk o ∧
      ∃ e0 e1 dk, y.1 = .agg [e0, e1, .lit (.string o.text), dk] ∧ ((dk = .nil ∧ ks = []) ∨ ∃ sp, dk = .slice (ks.map (fun k => .lit (.int .i64 k))) sp) := by
  obtain ⟨c0, c1, c2, c3, y0, y1, y2, y3, m, rfl, hy, g0, g1, g2, g3⟩ := four Tryz.underlying39 (by kernel_rfl) (by kernel_rfl) h
  obtain ⟨a, e0, rfl, wa⟩ := DataW.trod_int Tryz.underlying3 g0
  obtain ⟨b, e1, rfl, wb⟩ := DataW.trod_int Tryz.underlying3 g1
  obtain ⟨s, e2, rfl, ws⟩ := DataW.trod_string Tryz.underlying9 g2
  obtain ⟨ks, hks, hd⟩ := ints_of g3
  simp only [List.cons.injEq, and_true] at e0 e1 e2
  subst e0 e1 e2
  have h1 := wf_lo wb
  refine ⟨⟨a, b, s.data.toList, c3⟩, ks, ?_, hks, ⟨h1.1, h1.2, bs_len s ws⟩, _, _, y3.1, hy, hd⟩
  simp only [OpV.val]

theorem op_cells : Tryz.prog.cellsOf 39 = 4 := by kernel_rfl

/-- A slice of calls' records. -/
def ScriptAt (w : World) (A : Option Addr) (ops : List (OpV × List Int)) : Prop :=
  ops.length ≤ 9223372036854775807 ∧ (ops = [] ∨ ∃ b o, A = some ⟨b, o, none⟩ ∧ ∀ i p, ops[i]? = some p → OpOk p.1 ∧ IntsV w p.1.kv p.2 ∧
    w.cell? ⟨b, o + i * 4, none⟩ = some (.int .i64 p.1.kind) ∧ w.cell? ⟨b, o + i * 4 + 1, none⟩ = some (.int .i64 p.1.n) ∧ w.cell? ⟨b, o + i * 4 + 2, none⟩ = some (.string (bs p.1.text)) ∧ w.cell? ⟨b, o + i * 4 + 3, none⟩ = some p.1.kv)

theorem ScriptAt.stay {w w' : World} {A : Option Addr} {ops : List (OpV × List Int)} (h : ScriptAt w A ops) (hf : Fr (fun _ => False) w w') : ScriptAt w' A ops := by
  obtain ⟨h0, h⟩ := h
  refine ⟨h0, ?_⟩
  rcases h with h | ⟨b, o, rfl, h⟩
  · exact Or.inl h
  · refine Or.inr ⟨b, o, rfl, fun i p hp => ?_⟩
    obtain ⟨a1, a2, a3, a4, a5, a6⟩ := h i p hp
    exact ⟨a1, a2.stay hf, cells_stay hf a3, cells_stay hf a4, cells_stay hf a5, cells_stay hf a6⟩

structure WV where
  im : List UInt8
  first : Int
  count : Int
  from_ : Int
structure WOk (W : WV) : Prop where
  im : W.im.length ≤ 9223372036854775807
  f : -9223372036854775808 ≤ W.first ∧ W.first ≤ 9223372036854775807
  c : -9223372036854775808 ≤ W.count ∧ W.count ≤ 9223372036854775807
  n : -9223372036854775808 ≤ W.from_ ∧ W.from_ ≤ 9223372036854775807

set_option maxRecDepth 100000 in
theorem open_world {b0 : Nat} {v : Value} {d : DataW H} {p : List MemPlace} (hv : Value.okWide Tryz.prog w .any b0 24 v) (h : DataW.Trod enc Tryz.prog w base spare held 24 v d p) :
    ∃ (W : WV) (A : Option Addr) (cap : Nat) (ops : List (OpV × List Int)), v = .agg #[.string (bs W.im), .int .i64 W.first, .int .i64 W.count, .int .i64 W.from_, .slice A ops.length cap] ∧ WOk W ∧ ScriptAt w A ops ∧
      ∃ d0 d1 d2 d3 ds, d = .agg [d0, d1, d2, d3, ds] ∧ ((ds = .nil ∧ ops = []) ∨ ∃ (D : Nat → DataW H) (sp : List (DataW H)), ds = .slice ((List.range ops.length).map D) sp ∧
        ∀ i q, ops[i]? = some q → ∃ e0 e1 dk, D i = .agg [e0, e1, .lit (.string q.1.text), dk] ∧ ((dk = .nil ∧ q.2 = []) ∨ ∃ sp, dk = .slice (q.2.map (fun k => .lit (.int .i64 k))) sp)) := by
  obtain ⟨cs, rfl, hsz⟩ := okWide_struct Tryz.underlying24 hv
  obtain ⟨fuel, hf⟩ := h
  obtain ⟨v0, v1, v2, v3, v4, y0, y1, y2, y3, y4, n, hc, hy, g0, g1, g2, g3, g4⟩ := five Tryz.underlying24 (by kernel_rfl) (by kernel_rfl) hf
  obtain ⟨im, e0, rfl, wim⟩ := DataW.trod_string Tryz.underlying9 g0
  obtain ⟨a1, e1, rfl, w1⟩ := DataW.trod_int Tryz.underlying3 g1
  obtain ⟨a2, e2, rfl, w2⟩ := DataW.trod_int Tryz.underlying3 g2
  obtain ⟨a3, e3, rfl, w3⟩ := DataW.trod_int Tryz.underlying3 g3
  simp only [List.cons.injEq, and_true] at e0 e1 e2 e3
  subst e0 e1 e2 e3
  have hwok : WOk ⟨im.data.toList, a1, a2, a3⟩ := ⟨bs_len im wim, wf_lo w1, wf_lo w2, wf_lo w3⟩
  have hcs0 : cs = #[.string (bs im.data.toList), .int .i64 a1, .int .i64 a2, .int .i64 a3, v4] := by
    apply Array.ext'
    rw [← bs_of im]
    simpa [Value.cells] using hc
  subst hcs0
  have g1 := g4
  have hd : d = .agg [DataW.lit (.string im.data.toList), .lit (.int .i64 a1), .lit (.int .i64 a2), .lit (.int .i64 a3), y4.1] := hy
  subst hd
  rcases open_slice Tryz.underlying22 g1 with ⟨hcs, hx⟩ | ⟨a, len, cap, m, n', D, Pl, hcs, hb, hl, hm, hmm, hx, hi⟩
  · simp only [List.cons.injEq, and_true] at hcs
    subst hcs
    exact ⟨⟨im.data.toList, a1, a2, a3⟩, none, 0, [], rfl, hwok, ⟨by simp, Or.inl rfl⟩, _, _, _, _, _, rfl, Or.inl ⟨by rw [hx], rfl⟩⟩
  · simp only [List.cons.injEq, and_true] at hcs
    subst hcs
    have hlm : len ≤ m := by rw [hmm]; split <;> omega
    have one : ∀ i, i < len → ∃ q : OpV × List Int, OpOk q.1 ∧ IntsV w q.1.kv q.2 ∧ (∀ j u, q.1.val.toList[j]? = some u → w.cell? (a.add (i * 4 + j)) = some u) ∧
        ∃ e0 e1 dk, D i = .agg [e0, e1, .lit (.string q.1.text), dk] ∧ ((dk = .nil ∧ q.2 = []) ∨ ∃ sp, dk = .slice (q.2.map (fun k => .lit (.int .i64 k))) sp) := fun i hlt => by
      obtain ⟨cs', hc, ht'⟩ := hi i (by omega)
      rw [op_cells] at hc
      obtain ⟨o, ks, hcs, hks, hbd, z0, z1, dk, hd, hdk⟩ := op_of ht'
      obtain ⟨_, hcl, hat⟩ := World.cells?_some hc
      refine ⟨(o, ks), hbd, hks, fun j u hj => ?_, z0, z1, dk, hd, hdk⟩
      have hj5 : j < 4 := by
        have := (List.getElem?_eq_some_iff.1 hj).1
        simpa [OpV.val] using this
      have := hat j hj5
      rw [← add_add, this, hcs]
      exact hj
    obtain ⟨f, hf⟩ := choose_lt one
    have hL : ((List.range len).map f).length = len := by simp
    refine ⟨⟨im.data.toList, a1, a2, a3⟩, some a, cap, (List.range len).map f, by rw [hL], hwok, ⟨by rw [hL]; unfold maxLen at hm; omega, ?_⟩, _, _, _, _, _, rfl, Or.inr ⟨D, _, by rw [hx, hL], fun i q hq => ?_⟩⟩
    · by_cases h0 : len = 0
      · left
        rw [h0]
        rfl
      · right
        have h1 := (hf 0 (by omega)).2.2.1 0 _ rfl
        have hsp : a.spot = none := by
          cases hs : a.spot with
          | none => rfl
          | some s =>
            exfalso
            have : (a.add (0 * 4 + 0)).spot.isSome = true := by unfold Addr.add; simp [hs]
            unfold World.cell? at h1
            split at h1
            · rw [if_pos this] at h1; cases h1
            · cases h1
        obtain ⟨b, o, sp⟩ := a
        simp only at hsp
        subst hsp
        have ead : ∀ x, (⟨b, o, none⟩ : Addr).add x = ⟨b, o + x, none⟩ := fun x => by unfold Addr.add; split <;> simp_all
        refine ⟨b, o, rfl, fun i q hq => ?_⟩
        have hil : i < len := by
          have := (List.getElem?_eq_some_iff.1 hq).1
          simpa using this
        have e : q = f i := by
          rw [List.getElem?_map, List.getElem?_range hil] at hq
          simpa using hq.symm
        subst e
        obtain ⟨k1, k2, k3, _⟩ := hf i hil
        have c0 := k3 0 _ rfl
        have c1 := k3 1 _ rfl
        have c2 := k3 2 _ rfl
        have c3 := k3 3 _ rfl
        rw [ead] at c0 c1 c2 c3
        exact ⟨k1, k2, c0, c1, c2, c3⟩
    · have hil : i < len := by
        have := (List.getElem?_eq_some_iff.1 hq).1
        simpa using this
      have e : q = f i := by
        rw [List.getElem?_map, List.getElem?_range hil] at hq
        simpa using hq.symm
      subst e
      exact (hf i hil).2.2.2

end

theorem weights_mem_all {H : Type} {P : Program} {e : TypeId} : ∀ {ds : List (DataW H)} {d : DataW H}, d ∈ ds → ∀ n ∈ d.weights P e, n ∈ DataW.weightsAll P e ds
  | [], d, hd, n, hn => by cases hd
  | d0 :: ds, d, hd, n, hn => by
    rw [DataW.weightsAll, List.mem_append]
    rcases List.mem_cons.1 hd with h | h
    · subst h; exact Or.inl hn
    · exact Or.inr (weights_mem_all h n hn)

variable {H : Type}
theorem script_sized {ts : List TypeId} {ds : List (DataW H)} (h : (DataW.weightsEach Tryz.prog ts ds).all (· ≤ reachBytes) = true) {d0 d1 d2 d3 dsc : DataW H} {ops : List (OpV × List Int)} (ht : ts[0]? = some 24) (hd : ds[0]? = some (.agg [d0, d1, d2, d3, dsc]))
    (hs : (dsc = .nil ∧ ops = []) ∨ ∃ (D : Nat → DataW H) (sp : List (DataW H)), dsc = .slice ((List.range ops.length).map D) sp ∧
        ∀ i q, ops[i]? = some q → ∃ e0 e1 dk, D i = .agg [e0, e1, .lit (.string q.1.text), dk] ∧ ((dk = .nil ∧ q.2 = []) ∨ ∃ sp, dk = .slice (q.2.map (fun k => .lit (.int .i64 k))) sp)) :
    ∀ (i : Nat) (p : OpV × List Int), ops[i]? = some p → p.2.length * 8 ≤ 140737488355328 ∧ p.1.text.length ≤ 140737488355328 := by
  intro i p hp
  rcases hs with ⟨_, rfl⟩ | ⟨D, sp, rfl, hD⟩
  · simp at hp
  obtain ⟨e0, e1, dk, hDi, hk⟩ := hD i p hp
  have hr : reachBytes = 140737488351232 := by kernel_rfl
  have hil : i < ops.length := (List.getElem?_eq_some_iff.1 hp).1
  have hw : DataW.weights Tryz.prog 39 (.agg [e0, e1, .lit (.string p.1.text), dk] : DataW H) = DataW.weightsEach Tryz.prog [3, 3, 9, 37] [e0, e1, .lit (.string p.1.text), dk] := by
    rw [DataW.weights, Tryz.underlying39]
    rfl
  have hw2 : DataW.weights Tryz.prog 24 (.agg [d0, d1, d2, d3, .slice ((List.range ops.length).map D) sp] : DataW H) = DataW.weightsEach Tryz.prog [9, 3, 3, 3, 22] [d0, d1, d2, d3, .slice ((List.range ops.length).map D) sp] := by
    rw [DataW.weights, Tryz.underlying24]
    rfl
  have up : ∀ x, x ∈ DataW.weightsEach Tryz.prog [3, 3, 9, 37] [e0, e1, .lit (.string p.1.text), dk] → x ≤ reachBytes := fun x hx => by
    rw [← hw, ← hDi] at hx
    have h3 := weights_mem_all (P := Tryz.prog) (e := 39) (ds := (List.range ops.length).map D) (List.mem_map.2 ⟨i, List.mem_range.2 hil, rfl⟩) _ hx
    have h4 : x ∈ DataW.weights Tryz.prog 22 (.slice ((List.range ops.length).map D) sp : DataW H) := by
      rw [DataW.weights, Tryz.underlying22]
      simp only [List.mem_cons, List.mem_append]
      exact Or.inr (Or.inl h3)
    have h5 := DataW.weights_mem_each (P := Tryz.prog) (ts := [9, 3, 3, 3, 22]) (ds := [d0, d1, d2, d3, .slice ((List.range ops.length).map D) sp]) (j := 4) rfl rfl _ h4
    rw [← hw2] at h5
    have h6 := List.all_eq_true.1 h _ (DataW.weights_mem_each ht hd _ h5)
    simpa using h6
  constructor
  · rcases hk with ⟨_, hk⟩ | ⟨sp2, rfl⟩
    · rw [hk]; simp
    have hb : Tryz.prog.bytesOf 3 = 8 := by kernel_rfl
    have h1 : (p.2.length + sp2.length) * 8 ∈ DataW.weights Tryz.prog 37 (.slice (p.2.map (fun k => DataW.lit (.int .i64 k))) sp2 : DataW H) := by
      rw [DataW.weights, Tryz.underlying37]
      simp [hb]
    have h2 := up _ (DataW.weights_mem_each (P := Tryz.prog) (ts := [3, 3, 9, 37]) (ds := [e0, e1, .lit (.string p.1.text), .slice (p.2.map (fun k => DataW.lit (.int .i64 k))) sp2]) (j := 3) rfl rfl _ h1)
    rw [hr] at h2
    omega
  · have h1 : p.1.text.length ∈ DataW.weights Tryz.prog 9 (.lit (.string p.1.text) : DataW H) := by
      rw [DataW.weights]
      simp
    have h2 := up _ (DataW.weights_mem_each (P := Tryz.prog) (ts := [3, 3, 9, 37]) (ds := [e0, e1, .lit (.string p.1.text), dk]) (j := 2) rfl rfl _ h1)
    rw [hr] at h2
    omega

end Go.Proofs.YthmnchemfigneaaGreat.D
