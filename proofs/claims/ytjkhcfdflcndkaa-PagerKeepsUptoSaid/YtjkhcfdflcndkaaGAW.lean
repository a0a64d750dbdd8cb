/-
  How a world of the pager's laws reads: an image, an area, a number, a script. No condition.
-/
import Derived.Test.YtjkhcfdflcndkaaGA
import Derived.Test.YtjkhcfdflcndkaaG3
import Derived.Test.YtjkhcfdflcndkaaGArW0
namespace Go.Proofs.Ytjkhcfdflcndkaa.D
open Go.ChangeShapes Go.WideShapes Go.ChangeAt Go.RowKit Go.Deep Go.Joins
set_option linter.unusedVariables false

section
variable {H : Type} {enc : TypeId × Value → H} {w : World} {base : Nat} {spare : Nat → Bool} {held : Bool}

theorem list5 {α : Type} : ∀ (l : List α), l.length = 5 → ∃ a b c d e, l = [a, b, c, d, e]
  | [a, b, c, d, e], _ => ⟨a, b, c, d, e, rfl⟩

/-- A struct's five one-cell fields, each read. -/
theorem five {t : TypeId} {f0 f1 f2 f3 f4 : Field} {cs : List Value} {x : DataW H × List MemPlace} {fuel : Nat} (hu : Try.prog.underlying t = some (.struct #[f0, f1, f2, f3, f4])) (hone : oneCellFields Try.prog #[f0, f1, f2, f3, f4] = true) (hC : Try.prog.cellsOf t = 5)
    (h : DataW.trod enc Try.prog w base spare held fuel t cs = some x) :
    ∃ c0 c1 c2 c3 c4 y0 y1 y2 y3 y4 n, cs = [c0, c1, c2, c3, c4] ∧ x.1 = .agg [y0.1, y1.1, y2.1, y3.1, y4.1] ∧
      DataW.trod enc Try.prog w base spare held n f0.type [c0] = some y0 ∧ DataW.trod enc Try.prog w base spare held n f1.type [c1] = some y1 ∧ DataW.trod enc Try.prog w base spare held n f2.type [c2] = some y2 ∧
      DataW.trod enc Try.prog w base spare held n f3.type [c3] = some y3 ∧ DataW.trod enc Try.prog w base spare held n f4.type [c4] = some y4 := by
  obtain ⟨ys, n', hn', hy, hlen, hyl, hfl⟩ := DataW.trod_struct hu h
  rw [hC] at hlen
  obtain ⟨c0, c1, c2, c3, c4, rfl⟩ := list5 cs hlen
  have hyl5 : ys.length = 5 := hyl
  obtain ⟨y0, y1, y2, y3, y4, rfl⟩ := list5 ys hyl5
  obtain ⟨o0, k0⟩ := hone_of hone 0 f0 rfl
  obtain ⟨o1, k1⟩ := hone_of hone 1 f1 rfl
  obtain ⟨o2, k2⟩ := hone_of hone 2 f2 rfl
  obtain ⟨o3, k3⟩ := hone_of hone 3 f3 rfl
  obtain ⟨o4, k4⟩ := hone_of hone 4 f4 rfl
  exact ⟨c0, c1, c2, c3, c4, y0, y1, y2, y3, y4, n', rfl, by rw [hy]; rfl, by simpa [o0, k0] using hfl 0 f0 rfl, by simpa [o1, k1] using hfl 1 f1 rfl, by simpa [o2, k2] using hfl 2 f2 rfl, by simpa [o3, k3] using hfl 3 f3 rfl, by simpa [o4, k4] using hfl 4 f4 rfl⟩

/-- A slice of ints in a cell. -/
theorem ints_of {n : Nat} {c : Value} {y : DataW H × List MemPlace} (h : DataW.trod enc Try.prog w base spare held n 39 [c] = some y) :
    ∃ ks, IntsV w c ks ∧ (∀ k ∈ ks, -9223372036854775808 ≤ k ∧ k ≤ 9223372036854775807) ∧ ((y.1 = .nil ∧ ks = []) ∨ ∃ sp, y.1 = .slice (ks.map (fun k => .lit (.int .i64 k))) sp) := by
  rcases open_ints Try.underlying39 Try.underlying3 (by kernel_rfl) h with ⟨hc, hx⟩ | ⟨a, len, cap, zs, hc, hb, hl, hm, hz, hx, hcell, hwf⟩
  · simp only [List.cons.injEq, and_true] at hc
    subst hc
    exact ⟨[], ⟨none, 0, rfl, by simp, Or.inl rfl⟩, by simp, Or.inl ⟨by rw [hx], rfl⟩⟩
  · simp only [List.cons.injEq, and_true] at hc
    subst hc
    have hlz : len ≤ zs.length := by rw [hz]; split <;> omega
    have hlen : (zs.take len).length = len := by rw [List.length_take]; omega
    refine ⟨zs.take len, ⟨some a, cap, by rw [hlen], by rw [hlen]; unfold maxLen at hm; omega, ?_⟩, fun k hk => wf_lo (hwf k (List.mem_of_mem_take hk)), Or.inr ⟨_, by rw [hx]; rfl⟩⟩
    by_cases h0 : len = 0
    · exact Or.inl (by rw [h0]; rfl)
    · have h1 := hcell 0 (by omega)
      have hsp : a.spot = none := by
        cases hs : a.spot with
        | none => rfl
        | some s =>
          exfalso
          have : (a.add 0).spot.isSome = true := by unfold Addr.add; simp [hs]
          unfold World.cell? at h1
          split at h1
          · rw [if_pos this] at h1; cases h1
          · cases h1
      obtain ⟨b, o, sp⟩ := a
      simp only at hsp
      subst hsp
      refine Or.inr ⟨b, o, rfl, fun j hj => ?_⟩
      rw [hlen] at hj
      have h2 := hcell j (by omega)
      have e : (⟨b, o, none⟩ : Addr).add j = ⟨b, o + j, none⟩ := by unfold Addr.add; split <;> simp_all
      rw [e] at h2
      rw [h2]
      simp [List.getD_eq_getElem?_getD, List.getElem?_take_of_lt hj]

theorem list6 {α : Type} : ∀ (l : List α), l.length = 6 → ∃ a b c d e f, l = [a, b, c, d, e, f]
  | [a, b, c, d, e, f], _ => ⟨a, b, c, d, e, f, rfl⟩
/-- A struct's six one-cell fields, each read. -/
theorem six {t : TypeId} {f0 f1 f2 f3 f4 f5 : Field} {cs : List Value} {x : DataW H × List MemPlace} {fuel : Nat} (hu : Try.prog.underlying t = some (.struct #[f0, f1, f2, f3, f4, f5])) (hone : oneCellFields Try.prog #[f0, f1, f2, f3, f4, f5] = true) (hC : Try.prog.cellsOf t = 6)
    (h : DataW.trod enc Try.prog w base spare held fuel t cs = some x) :
    ∃ c0 c1 c2 c3 c4 c5 y0 y1 y2 y3 y4 y5 n, cs = [c0, c1, c2, c3, c4, c5] ∧ x.1 = .agg [y0.1, y1.1, y2.1, y3.1, y4.1, y5.1] ∧
      DataW.trod enc Try.prog w base spare held n f0.type [c0] = some y0 ∧ DataW.trod enc Try.prog w base spare held n f1.type [c1] = some y1 ∧ DataW.trod enc Try.prog w base spare held n f2.type [c2] = some y2 ∧
      DataW.trod enc Try.prog w base spare held n f3.type [c3] = some y3 ∧ DataW.trod enc Try.prog w base spare held n f4.type [c4] = some y4 ∧ DataW.trod enc Try.prog w base spare held n f5.type [c5] = some y5 := by
  obtain ⟨ys, n', hn', hy, hlen, hyl, hfl⟩ := DataW.trod_struct hu h
  rw [hC] at hlen
  obtain ⟨c0, c1, c2, c3, c4, c5, rfl⟩ := list6 cs hlen
  have hyl6 : ys.length = 6 := hyl
  obtain ⟨y0, y1, y2, y3, y4, y5, rfl⟩ := list6 ys hyl6
  obtain ⟨o0, k0⟩ := hone_of hone 0 f0 rfl
  obtain ⟨o1, k1⟩ := hone_of hone 1 f1 rfl
  obtain ⟨o2, k2⟩ := hone_of hone 2 f2 rfl
  obtain ⟨o3, k3⟩ := hone_of hone 3 f3 rfl
  obtain ⟨o4, k4⟩ := hone_of hone 4 f4 rfl
  obtain ⟨o5, k5⟩ := hone_of hone 5 f5 rfl
  exact ⟨c0, c1, c2, c3, c4, c5, y0, y1, y2, y3, y4, y5, n', rfl, by rw [hy]; rfl, by simpa [o0, k0] using hfl 0 f0 rfl, by simpa [o1, k1] using hfl 1 f1 rfl, by simpa [o2, k2] using hfl 2 f2 rfl, by simpa [o3, k3] using hfl 3 f3 rfl, by simpa [o4, k4] using hfl 4 f4 rfl, by simpa [o5, k5] using hfl 5 f5 rfl⟩

/-- A call's record: what its cells say. -/
theorem op_of {n : Nat} {cs : List Value} {y : DataW H × List MemPlace} (h : DataW.trod enc Try.prog w base spare held n 44 cs = some y) :
    ∃ (o : OpV), cs = o.val.toList ∧ OpOk w o ∧
      ∃ e0 e1 e2 dp dk, y.1 = .agg [e0, e1, e2, .lit (.string o.text), dp, dk] ∧ ((dp = .nil ∧ o.pages = []) ∨ ∃ sp, dp = .slice (o.pages.map (fun k => .lit (.int .i64 k))) sp) ∧ ((dk = .nil ∧ o.kept = []) ∨ ∃ sp, dk = .slice (o.kept.map (fun k => .lit (.int .i64 k))) sp) := by
  obtain ⟨c0, c1, c2, c3, c4, c5, y0, y1, y2, y3, y4, y5, m, rfl, hy, g0, g1, g2, g3, g4, g5⟩ := six Try.underlying44 (by kernel_rfl) (by kernel_rfl) h
  obtain ⟨a, e0, rfl, wa⟩ := DataW.trod_int Try.underlying3 g0
  obtain ⟨b, e1, rfl, wb⟩ := DataW.trod_int Try.underlying3 g1
  obtain ⟨c, e2, rfl, wc⟩ := DataW.trod_int Try.underlying3 g2
  obtain ⟨s, e3, rfl, ws⟩ := DataW.trod_string Try.underlying9 g3
  obtain ⟨ps, hps, bps, hpd⟩ := ints_of g4
  obtain ⟨ks, hks, _, hkd⟩ := ints_of g5
  simp only [List.cons.injEq, and_true] at e0 e1 e2 e3
  subst e0 e1 e2 e3
  have h1 := wf_lo wb
  have h2 := wf_lo wc
  refine ⟨⟨a, b, c, s.data.toList, c4, c5, ps, ks⟩, ?_, ⟨h1.1, h1.2, h2.1, h2.2, bs_len s ws, hps, bps, hks⟩, _, _, _, y4.1, y5.1, hy, hpd, hkd⟩
  simp only [OpV.val]

theorem op_cells : Try.prog.cellsOf 44 = 6 := by kernel_rfl

set_option maxRecDepth 100000 in
theorem open_world {b0 : Nat} {v : Value} {d : DataW H} {p : List MemPlace} (hv : Value.okWide Try.prog w .any b0 32 v) (h : DataW.Trod enc Try.prog w base spare held 32 v d p) :
    ∃ (W : WV) (A : Option Addr) (cap : Nat) (ops : List OpV), v = .agg #[.string (bs W.im), .int .i64 W.first, .int .i64 W.count, .int .i64 W.from_, .slice A ops.length cap] ∧ WOk W ∧ ScriptAt w A ops ∧
      ∃ d0 d1 d2 d3 ds, d = .agg [d0, d1, d2, d3, ds] ∧ ((ds = .nil ∧ ops = []) ∨ ∃ (D : Nat → DataW H) (sp : List (DataW H)), ds = .slice ((List.range ops.length).map D) sp ∧
        ∀ i q, ops[i]? = some q → ∃ e0 e1 e2 dp dk, D i = .agg [e0, e1, e2, .lit (.string q.text), dp, dk] ∧ ((dp = .nil ∧ q.pages = []) ∨ ∃ sp, dp = .slice (q.pages.map (fun k => .lit (.int .i64 k))) sp) ∧ ((dk = .nil ∧ q.kept = []) ∨ ∃ sp, dk = .slice (q.kept.map (fun k => .lit (.int .i64 k))) sp)) := by
  obtain ⟨cs, rfl, hsz⟩ := okWide_struct Try.underlying32 hv
  obtain ⟨fuel, hf⟩ := h
  obtain ⟨v0, v1, v2, v3, v4, y0, y1, y2, y3, y4, n, hc, hy, g0, g1, g2, g3, g4⟩ := five Try.underlying32 (by kernel_rfl) (by kernel_rfl) hf
  obtain ⟨im, e0, rfl, wim⟩ := DataW.trod_string Try.underlying9 g0
  obtain ⟨a1, e1, rfl, w1⟩ := DataW.trod_int Try.underlying3 g1
  obtain ⟨a2, e2, rfl, w2⟩ := DataW.trod_int Try.underlying3 g2
  obtain ⟨a3, e3, rfl, w3⟩ := DataW.trod_int Try.underlying3 g3
  simp only [List.cons.injEq, and_true] at e0 e1 e2 e3
  subst e0 e1 e2 e3
  have hwok : WOk ⟨im.data.toList, a1, a2, a3⟩ := ⟨bs_len im wim, wf_lo w1, wf_lo w2, wf_lo w3⟩
  have hcs0 : cs = #[.string (bs im.data.toList), .int .i64 a1, .int .i64 a2, .int .i64 a3, v4] := by
    apply Array.ext'
    rw [← bs_of im]
    simpa [Value.cells] using hc
  subst hcs0
  have g1 := g4
  have hd : d = .agg [DataW.lit (.string im.data.toList), .lit (.int .i64 a1), .lit (.int .i64 a2), .lit (.int .i64 a3), y4.1] := hy
  subst hd
  rcases open_slice Try.underlying30 g1 with ⟨hcs, hx⟩ | ⟨a, len, cap, m, n', D, Pl, hcs, hb, hl, hm, hmm, hx, hi⟩
  · simp only [List.cons.injEq, and_true] at hcs
    subst hcs
    exact ⟨⟨im.data.toList, a1, a2, a3⟩, none, 0, [], rfl, hwok, ⟨by simp, Or.inl rfl⟩, _, _, _, _, _, rfl, Or.inl ⟨by rw [hx], rfl⟩⟩
  · simp only [List.cons.injEq, and_true] at hcs
    subst hcs
    have hlm : len ≤ m := by rw [hmm]; split <;> omega
    have one : ∀ i, i < len → ∃ q : OpV, OpOk w q ∧ (∀ j u, q.val.toList[j]? = some u → w.cell? (a.add (i * 6 + j)) = some u) ∧
        ∃ e0 e1 e2 dp dk, D i = .agg [e0, e1, e2, .lit (.string q.text), dp, dk] ∧ ((dp = .nil ∧ q.pages = []) ∨ ∃ sp, dp = .slice (q.pages.map (fun k => .lit (.int .i64 k))) sp) ∧ ((dk = .nil ∧ q.kept = []) ∨ ∃ sp, dk = .slice (q.kept.map (fun k => .lit (.int .i64 k))) sp) := fun i hlt => by
      obtain ⟨cs', hc, ht'⟩ := hi i (by omega)
      rw [op_cells] at hc
      obtain ⟨o, hcs, hbd, z0, z1, z2, dp, dk, hd, hdk⟩ := op_of ht'
      obtain ⟨_, hcl, hat⟩ := World.cells?_some hc
      refine ⟨o, hbd, fun j u hj => ?_, z0, z1, z2, dp, dk, hd, hdk⟩
      have hj5 : j < 6 := by
        have := (List.getElem?_eq_some_iff.1 hj).1
        simpa [OpV.val] using this
      have := hat j hj5
      rw [← add_add, this, hcs]
      exact hj
    obtain ⟨f, hf⟩ := choose_lt one
    have hL : ((List.range len).map f).length = len := by simp
    refine ⟨⟨im.data.toList, a1, a2, a3⟩, some a, cap, (List.range len).map f, by rw [hL], hwok, ⟨by rw [hL]; unfold maxLen at hm; omega, ?_⟩, _, _, _, _, _, rfl, Or.inr ⟨D, _, by rw [hx, hL], fun i q hq => ?_⟩⟩
    · by_cases h0 : len = 0
      · left
        rw [h0]
        rfl
      · right
        have h1 := (hf 0 (by omega)).2.1 0 _ rfl
        have hsp : a.spot = none := by
          cases hs : a.spot with
          | none => rfl
          | some s =>
            exfalso
            have : (a.add (0 * 6 + 0)).spot.isSome = true := by unfold Addr.add; simp [hs]
            unfold World.cell? at h1
            split at h1
            · rw [if_pos this] at h1; cases h1
            · cases h1
        obtain ⟨b, o, sp⟩ := a
        simp only at hsp
        subst hsp
        have ead : ∀ x, (⟨b, o, none⟩ : Addr).add x = ⟨b, o + x, none⟩ := fun x => by unfold Addr.add; split <;> simp_all
        refine ⟨b, o, rfl, fun i q hq => ?_⟩
        have hil : i < len := by
          have := (List.getElem?_eq_some_iff.1 hq).1
          simpa using this
        have e : q = f i := by
          rw [List.getElem?_map, List.getElem?_range hil] at hq
          simpa using hq.symm
        subst e
        obtain ⟨k1, k3, _⟩ := hf i hil
        have c0 := k3 0 _ rfl
        have c1 := k3 1 _ rfl
        have c2 := k3 2 _ rfl
        have c3 := k3 3 _ rfl
        have c4 := k3 4 _ rfl
        have c5 := k3 5 _ rfl
        rw [ead] at c0 c1 c2 c3 c4 c5
        exact ⟨k1, c0, c1, c2, c3, c4, c5⟩
    · have hil : i < len := by
        have := (List.getElem?_eq_some_iff.1 hq).1
        simpa using this
      have e : q = f i := by
        rw [List.getElem?_map, List.getElem?_range hil] at hq
        simpa using hq.symm
      subst e
      exact (hf i hil).2.2

end

theorem weights_mem_all {H : Type} {P : Program} {e : TypeId} : ∀ {ds : List (DataW H)} {d : DataW H}, d ∈ ds → ∀ n ∈ d.weights P e, n ∈ DataW.weightsAll P e ds
  | [], d, hd, n, hn => by cases hd
  | d0 :: ds, d, hd, n, hn => by
    rw [DataW.weightsAll, List.mem_append]
    rcases List.mem_cons.1 hd with h | h
    · subst h; exact Or.inl hn
    · exact Or.inr (weights_mem_all h n hn)

variable {H : Type}
theorem script_sized {ts : List TypeId} {ds : List (DataW H)} (h : (DataW.weightsEach Try.prog ts ds).all (· ≤ reachBytes) = true) {d0 d1 d2 d3 dsc : DataW H} {ops : List OpV} (ht : ts[0]? = some 32) (hd : ds[0]? = some (.agg [d0, d1, d2, d3, dsc]))
    (hs : (dsc = .nil ∧ ops = []) ∨ ∃ (D : Nat → DataW H) (sp : List (DataW H)), dsc = .slice ((List.range ops.length).map D) sp ∧
        ∀ i q, ops[i]? = some q → ∃ e0 e1 e2 dp dk, D i = .agg [e0, e1, e2, .lit (.string q.text), dp, dk] ∧ ((dp = .nil ∧ q.pages = []) ∨ ∃ sp, dp = .slice (q.pages.map (fun k => .lit (.int .i64 k))) sp) ∧ ((dk = .nil ∧ q.kept = []) ∨ ∃ sp, dk = .slice (q.kept.map (fun k => .lit (.int .i64 k))) sp)) :
    ∀ (i : Nat) (p : OpV), ops[i]? = some p → p.kept.length * 8 ≤ 140737488355328 ∧ p.pages.length * 8 ≤ 140737488355328 := by
  intro i p hp
  rcases hs with ⟨_, rfl⟩ | ⟨D, sp, rfl, hD⟩
  · simp at hp
  obtain ⟨e0, e1, e2, dp, dk, hDi, hpd, hk⟩ := hD i p hp
  have hr : reachBytes = 140737488351232 := by kernel_rfl
  have hil : i < ops.length := (List.getElem?_eq_some_iff.1 hp).1
  have hw : DataW.weights Try.prog 44 (.agg [e0, e1, e2, .lit (.string p.text), dp, dk] : DataW H) = DataW.weightsEach Try.prog [3, 3, 3, 9, 39, 39] [e0, e1, e2, .lit (.string p.text), dp, dk] := by
    rw [DataW.weights, Try.underlying44]
    rfl
  have hw2 : DataW.weights Try.prog 32 (.agg [d0, d1, d2, d3, .slice ((List.range ops.length).map D) sp] : DataW H) = DataW.weightsEach Try.prog [9, 3, 3, 3, 30] [d0, d1, d2, d3, .slice ((List.range ops.length).map D) sp] := by
    rw [DataW.weights, Try.underlying32]
    rfl
  have up : ∀ x, x ∈ DataW.weightsEach Try.prog [3, 3, 3, 9, 39, 39] [e0, e1, e2, .lit (.string p.text), dp, dk] → x ≤ reachBytes := fun x hx => by
    rw [← hw, ← hDi] at hx
    have h3 := weights_mem_all (P := Try.prog) (e := 44) (ds := (List.range ops.length).map D) (List.mem_map.2 ⟨i, List.mem_range.2 hil, rfl⟩) _ hx
    have h4 : x ∈ DataW.weights Try.prog 30 (.slice ((List.range ops.length).map D) sp : DataW H) := by
      rw [DataW.weights, Try.underlying30]
      simp only [List.mem_cons, List.mem_append]
      exact Or.inr (Or.inl h3)
    have h5 := DataW.weights_mem_each (P := Try.prog) (ts := [9, 3, 3, 3, 30]) (ds := [d0, d1, d2, d3, .slice ((List.range ops.length).map D) sp]) (j := 4) rfl rfl _ h4
    rw [← hw2] at h5
    have h6 := List.all_eq_true.1 h _ (DataW.weights_mem_each ht hd _ h5)
    simpa using h6
  have key : ∀ (l : List Int) (d : DataW H) (j : Nat), ((d = .nil ∧ l = []) ∨ ∃ sp, d = .slice (l.map (fun k => .lit (.int .i64 k))) sp) → [3, 3, 3, 9, 39, 39][j]? = some 39 → ([e0, e1, e2, .lit (.string p.text), dp, dk] : List (DataW H))[j]? = some d → l.length * 8 ≤ 140737488355328 := by
    intro l d j hl h1 h2
    rcases hl with ⟨_, hl⟩ | ⟨sp2, rfl⟩
    · rw [hl]; simp
    have hb : Try.prog.bytesOf 3 = 8 := by kernel_rfl
    have h3 : (l.length + sp2.length) * 8 ∈ DataW.weights Try.prog 39 (.slice (l.map (fun k => DataW.lit (.int .i64 k))) sp2 : DataW H) := by
      rw [DataW.weights, Try.underlying39]
      simp [hb]
    have h4 := up _ (DataW.weights_mem_each (P := Try.prog) h1 h2 _ h3)
    rw [hr] at h4
    omega
  exact ⟨key _ _ 5 hk rfl rfl, key _ _ 4 hpd rfl rfl⟩

end Go.Proofs.Ytjkhcfdflcndkaa.D
