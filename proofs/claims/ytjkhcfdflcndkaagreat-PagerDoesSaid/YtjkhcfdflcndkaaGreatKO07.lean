/-
  How a world of the pager's laws reads: an image, an area, a number, a script. No condition.
-/
import Derived.Test.YtjkhcfdflcndkaaGreatKO05
import Derived.Test.YtjkhcfdflcndkaaGreatKO06
namespace Go.Proofs.YtjkhcfdflcndkaaGreat.D
open Go.ChangeShapes Go.WideShapes Go.ChangeAt Go.RowKit Go.Deep Go.Joins
set_option linter.unusedVariables false

section
variable {H : Type} {enc : TypeId × Value → H} {w : World} {base : Nat} {spare : Nat → Bool} {held : Bool}

theorem list5 {α : Type} : ∀ (l : List α), l.length = 5 → ∃ a b c d e, l = [a, b, c, d, e]
  | [a, b, c, d, e], _ => ⟨a, b, c, d, e, rfl⟩

/-- A struct's five one-cell fields, each read. -/
theorem five {t : TypeId} {f0 f1 f2 f3 f4 : Field} {cs : List Value} {x : DataW H × List MemPlace} {fuel : Nat} (hu : Tryz.prog.underlying t = some (.struct #[f0, f1, f2, f3, f4])) (hone : oneCellFields Tryz.prog #[f0, f1, f2, f3, f4] = true) (hC : Tryz.prog.cellsOf t = 5)
    (h : DataW.trod enc Tryz.prog w base spare held fuel t cs = some x) :
    ∃ c0 c1 c2 c3 c4 y0 y1 y2 y3 y4 n, cs = [c0, c1, c2, c3, c4] ∧ x.1 = .agg [y0.1, y1.1, y2.1, y3.1, y4.1] ∧
      DataW.trod enc Tryz.prog w base spare held n f0.type [c0] = some y0 ∧ DataW.trod enc Tryz.prog w base spare held n f1.type [c1] = some y1 ∧ DataW.trod enc Tryz.prog w base spare held n f2.type [c2] = some y2 ∧
      DataW.trod enc Tryz.prog w base spare held n f3.type [c3] = some y3 ∧ DataW.trod enc Tryz.prog w base spare held n f4.type [c4] = some y4 := by
  obtain ⟨ys, n', hn', hy, hlen, hyl, hfl⟩ := DataW.trod_struct hu h
  rw [hC] at hlen
  obtain ⟨c0, c1, c2, c3, c4, rfl⟩ := list5 cs hlen
  have hyl5 : ys.length = 5 := hyl
  obtain ⟨y0, y1, y2, y3, y4, rfl⟩ := list5 ys hyl5
  obtain ⟨o0, k0⟩ := hone_of hone 0 f0 rfl
  obtain ⟨o1, k1⟩ := hone_of hone 1 f1 rfl
  obtain ⟨o2, k2⟩ := hone_of hone 2 f2 rfl
  obtain ⟨o3, k3⟩ := hone_of hone 3 f3 rfl
  obtain ⟨o4, k4⟩ := hone_of hone 4 f4 rfl
  exact ⟨c0, c1, c2, c3, c4, y0, y1, y2, y3, y4, n', rfl, by rw [hy]; rfl, by simpa [o0, k0] using hfl 0 f0 rfl, by simpa [o1, k1] using hfl 1 f1 rfl, by simpa [o2, k2] using hfl 2 f2 rfl, by simpa [o3, k3] using hfl 3 f3 rfl, by simpa [o4, k4] using hfl 4 f4 rfl⟩

/-- A slice of ints in a cell. -/
theorem ints_of {n : Nat} {c : Value} {y : DataW H × List MemPlace} (h : DataW.trod enc Tryz.prog w base spare held n 38 [c] = some y) :
    ∃ ks, IntsV w c ks ∧ (∀ k ∈ ks, -9223372036854775808 ≤ k ∧ k ≤ 9223372036854775807) ∧ ((y.1 = .nil ∧ ks = []) ∨ ∃ sp, y.1 = .slice (ks.map (fun k => .lit (.int .i64 k))) sp) := by
  rcases open_ints Tryz.underlying38 Tryz.underlying3 (by kernel_rfl) h with ⟨hc, hx⟩ | ⟨a, len, cap, zs, hc, hb, hl, hm, hz, hx, hcell, hwf⟩
  · simp only [List.cons.injEq, and_true] at hc
    subst hc
    exact ⟨[], ⟨none, 0, rfl, by simp, Or.inl rfl⟩, by simp, Or.inl ⟨by rw [hx], rfl⟩⟩
  · simp only [List.cons.injEq, and_true] at hc
    subst hc
    have hlz : len ≤ zs.length := by rw [hz]; split <;> omega
    have hlen : (zs.take len).length = len := by rw [List.length_take]; omega
    refine ⟨zs.take len, ⟨some a, cap, by rw [hlen], by rw [hlen]; unfold maxLen at hm; omega, ?_⟩, fun k hk => wf_lo (hwf k (List.mem_of_mem_take hk)), Or.inr ⟨_, by rw [hx]; rfl⟩⟩
    by_cases h0 : len = 0
    · exact Or.inl (by rw [h0]; rfl)
    · have h1 := hcell 0 (by omega)
      have hsp : a.spot = none := by
        cases hs : a.spot with
        | none => rfl
        | some s =>
          exfalso
          have : (a.add 0).spot.isSome = true := by unfold Addr.add; simp [hs]
          unfold World.cell? at h1
          split at h1
          · rw [if_pos this] at h1; cases h1
          · cases h1
      obtain ⟨b, o, sp⟩ := a
      simp only at hsp
      subst hsp
      refine Or.inr ⟨b, o, rfl, fun j hj => ?_⟩
      rw [hlen] at hj
      have h2 := hcell j (by omega)
      have e : (⟨b, o, none⟩ : Addr).add j = ⟨b, o + j, none⟩ := by unfold Addr.add; split <;> simp_all
      rw [e] at h2
      rw [h2]
      simp [List.getD_eq_getElem?_getD, List.getElem?_take_of_lt hj]

theorem list6 {α : Type} : ∀ (l : List α), l.length = 6 → ∃ a b c d e f, l = [a, b, c, d, e, f]
  | [a, b, c, d, e, f], _ => ⟨a, b, c, d, e, f, rfl⟩
/-- A struct's six one-cell fields, each read. -/
theorem six {t : TypeId} {f0 f1 f2 f3 f4 f5 : Field} {cs : List Value} {x : DataW H × List MemPlace} {fuel : Nat} (hu : Tryz.prog.underlying t = some (.struct #[f0, f1, f2, f3, f4, f5])) (hone : oneCellFields Tryz.prog #[f0, f1, f2, f3, f4, f5] = true) (hC : Tryz.prog.cellsOf t = 6)
    (h : DataW.trod enc Tryz.prog w base spare held fuel t cs = some x) :
    ∃ c0 c1 c2 c3 c4 c5 y0 y1 y2 y3 y4 y5 n, cs = [c0, c1, c2, c3, c4, c5] ∧ x.1 = .agg [y0.1, y1.1, y2.1, y3.1, y4.1, y5.1] ∧
      DataW.trod enc Tryz.prog w base spare held n f0.type [c0] = some y0 ∧ DataW.trod enc Tryz.prog w base spare held n f1.type [c1] = some y1 ∧ DataW.trod enc Tryz.prog w base spare held n f2.type [c2] = some y2 ∧
      DataW.trod enc Tryz.prog w base spare held n f3.type [c3] = some y3 ∧ DataW.trod enc Tryz.prog w base spare held n f4.type [c4] = some y4 ∧ DataW.trod enc Tryz.prog w base spare held n f5.type [c5] = some y5 := by
  obtain ⟨ys, n', hn', hy, hlen, hyl, hfl⟩ := DataW.trod_struct hu h
  rw [hC] at hlen
  obtain ⟨c0, c1, c2, c3, c4, c5, rfl⟩ := list6 cs hlen
  have hyl6 : ys.length = 6 := hyl
  obtain ⟨y0, y1, y2, y3, y4, y5, rfl⟩ := list6 ys hyl6
  obtain ⟨o0, k0⟩ := hone_of hone 0 f0 rfl
  obtain ⟨o1, k1⟩ := hone_of hone 1 f1 rfl
  obtain ⟨o2, k2⟩ := hone_of hone 2 f2 rfl
  obtain ⟨o3, k3⟩ := hone_of hone 3 f3 rfl
  obtain ⟨o4, k4⟩ := hone_of hone 4 f4 rfl
  obtain ⟨o5, k5⟩ := hone_of hone 5 f5 rfl
  exact ⟨c0, c1, c2, c3, c4, c5, y0, y1, y2, y3, y4, y5, n', rfl, by rw [hy]; rfl, by simpa [o0, k0] using hfl 0 f0 rfl, by simpa [o1, k1] using hfl 1 f1 rfl, by simpa [o2, k2] using hfl 2 f2 rfl, by simpa [o3, k3] using hfl 3 f3 rfl, by simpa [o4, k4] using hfl 4 f4 rfl, by simpa [o5, k5] using hfl 5 f5 rfl⟩

/-- A call's record: what its cells say. -/
theorem op_of {n : Nat} {cs : List Value} {y : DataW H × List MemPlace} (h : DataW.trod enc Tryz.prog w base spare held n 47 cs = some y) :
    ∃ (o : OpV), cs = o.val.toList ∧ OpOk w o ∧
      ∃ e0 e1 e2 dp dk, y.1 = .agg [e0, e1, e2, .lit (.string o.text), dp, dk] ∧ ((dp = .nil ∧ o.pages = []) ∨ ∃ sp, dp = .slice (o.pages.map (fun k => .lit (.int .i64 k))) sp) ∧ ((dk = .nil ∧ o.kept = []) ∨ ∃ sp, dk = .slice (o.kept.map (fun k => .lit (.int .i64 k))) sp) := by
  obtain ⟨c0, c1, c2, c3, c4, c5, y0, y1, y2, y3, y4, y5, m, rfl, hy, g0, g1, g2, g3, g4, g5⟩ := six Tryz.underlying47 (by kernel_rfl) (by kernel_rfl) h
  obtain ⟨a, e0, rfl, wa⟩ := DataW.trod_int Tryz.underlying3 g0
  obtain ⟨b, e1, rfl, wb⟩ := DataW.trod_int Tryz.underlying3 g1
  obtain ⟨c, e2, rfl, wc⟩ := DataW.trod_int Tryz.underlying3 g2
  obtain ⟨s, e3, rfl, ws⟩ := DataW.trod_string Tryz.underlying9 g3
  obtain ⟨ps, hps, bps, hpd⟩ := ints_of g4
  obtain ⟨ks, hks, _, hkd⟩ := ints_of g5
  simp only [List.cons.injEq, and_true] at e0 e1 e2 e3
  subst e0 e1 e2 e3
  have h1 := wf_lo wb
  have h2 := wf_lo wc
  refine ⟨⟨a, b, c, s.data.toList, c4, c5, ps, ks⟩, ?_, ⟨h1.1, h1.2, h2.1, h2.2, bs_len s ws, hps, bps, hks⟩, _, _, _, y4.1, y5.1, hy, hpd, hkd⟩
  simp only [OpV.val]

theorem op_cells : Tryz.prog.cellsOf 47 = 6 := by kernel_rfl

set_option maxRecDepth 100000 in
theorem open_world {b0 : Nat} {v : Value} {d : DataW H} {p : List MemPlace} (hv : Value.okWide Tryz.prog w .any b0 24 v) (h : DataW.Trod enc Tryz.prog w base spare held 24 v d p) :
    ∃ (W : WV) (A : Option Addr) (cap : Nat) (ops : List OpV), v = .agg #[.string (bs W.im), .int .i64 W.first, .int .i64 W.count, .int .i64 W.from_, .slice A ops.length cap] ∧ WOk W ∧ ScriptAt w A ops ∧
      ∃ d0 d1 d2 d3 ds, d = .agg [d0, d1, d2, d3, ds] ∧ ((ds = .nil ∧ ops = []) ∨ ∃ (D : Nat → DataW H) (sp : List (DataW H)), ds = .slice ((List.range ops.length).map D) sp ∧
        ∀ i q, ops[i]? = some q → ∃ e0 e1 e2 dp dk, D i = .agg [e0, e1, e2, .lit (.string q.text), dp, dk] ∧ ((dp = .nil ∧ q.pages = []) ∨ ∃ sp, dp = .slice (q.pages.map (fun k => .lit (.int .i64 k))) sp) ∧ ((dk = .nil ∧ q.kept = []) ∨ ∃ sp, dk = .slice (q.kept.map (fun k => .lit (.int .i64 k))) sp)) := by
  obtain ⟨cs, rfl, hsz⟩ := okWide_struct Tryz.underlying24 hv
  obtain ⟨fuel, hf⟩ := h
  obtain ⟨v0, v1, v2, v3, v4, y0, y1, y2, y3, y4, n, hc, hy, g0, g1, g2, g3, g4⟩ := five Tryz.underlying24 (by kernel_rfl) (by kernel_rfl) hf
  obtain ⟨im, e0, rfl, wim⟩ := DataW.trod_string Tryz.underlying9 g0
  obtain ⟨a1, e1, rfl, w1⟩ := DataW.trod_int Tryz.underlying3 g1
  obtain ⟨a2, e2, rfl, w2⟩ := DataW.trod_int Tryz.underlying3 g2
  obtain ⟨a3, e3, rfl, w3⟩ := DataW.trod_int Tryz.underlying3 g3
  simp only [List.cons.injEq, and_true] at e0 e1 e2 e3
  subst e0 e1 e2 e3
  have hwok : WOk ⟨im.data.toList, a1, a2, a3⟩ := ⟨bs_len im wim, wf_lo w1, wf_lo w2, wf_lo w3⟩
  have hcs0 : cs = #[.string (bs im.data.toList), .int .i64 a1, .int .i64 a2, .int .i64 a3, v4] := by
    apply Array.ext'
    rw [← bs_of im]
    simpa [Value.cells] using hc
  subst hcs0
  have g1 := g4
  have hd : d = .agg [DataW.lit (.string im.data.toList), .lit (.int .i64 a1), .lit (.int .i64 a2), .lit (.int .i64 a3), y4.1] := hy
  subst hd
  rcases open_slice Tryz.underlying22 g1 with ⟨hcs, hx⟩ | ⟨a, len, cap, m, n', D, Pl, hcs, hb, hl, hm, hmm, hx, hi⟩
  · simp only [List.cons.injEq, and_true] at hcs
    subst hcs
    exact ⟨⟨im.data.toList, a1, a2, a3⟩, none, 0, [], rfl, hwok, ⟨by simp, Or.inl rfl⟩, _, _, _, _, _, rfl, Or.inl ⟨by rw [hx], rfl⟩⟩
  · simp only [List.cons.injEq, and_true] at hcs
    subst hcs
    have hlm : len ≤ m := by rw [hmm]; split <;> omega
    have one : ∀ i, i < len → ∃ q : OpV, OpOk w q ∧ (∀ j u, q.val.toList[j]? = some u → w.cell? (a.add (i * 6 + j)) = some u) ∧
        ∃ e0 e1 e2 dp dk, D i = .agg [e0, e1, e2, .lit (.string q.text), dp, dk] ∧ ((dp = .nil ∧ q.pages = []) ∨ ∃ sp, dp = .slice (q.pages.map (fun k => .lit (.int .i64 k))) sp) ∧ ((dk = .nil ∧ q.kept = []) ∨ ∃ sp, dk = .slice (q.kept.map (fun k => .lit (.int .i64 k))) sp) := fun i hlt => by
      obtain ⟨cs', hc, ht'⟩ := hi i (by omega)
      rw [op_cells] at hc
      obtain ⟨o, hcs, hbd, z0, z1, z2, dp, dk, hd, hdk⟩ := op_of ht'
      obtain ⟨_, hcl, hat⟩ := World.cells?_some hc
      refine ⟨o, hbd, fun j u hj => ?_, z0, z1, z2, dp, dk, hd, hdk⟩
      have hj5 : j < 6 := by
        have := (List.getElem?_eq_some_iff.1 hj).1
        simpa [OpV.val] using this
      have := hat j hj5
      rw [← add_add, this, hcs]
      exact hj
    obtain ⟨f, hf⟩ := choose_lt one
    have hL : ((List.range len).map f).length = len := by simp
    refine ⟨⟨im.data.toList, a1, a2, a3⟩, some a, cap, (List.range len).map f, by rw [hL], hwok, ⟨by rw [hL]; unfold maxLen at hm; omega, ?_⟩, _, _, _, _, _, rfl, Or.inr ⟨D, _, by rw [hx, hL], fun i q hq => ?_⟩⟩
    · by_cases h0 : len = 0
      · left
        rw [h0]
        rfl
      · right
        have h1 := (hf 0 (by omega)).2.1 0 _ rfl
        have hsp : a.spot = none := by
          cases hs : a.spot with
          | none => rfl
          | some s =>
            exfalso
            have : (a.add (0 * 6 + 0)).spot.isSome = true := by unfold Addr.add; simp [hs]
            unfold World.cell? at h1
            split at h1
            · rw [if_pos this] at h1; cases h1
            · cases h1
        obtain ⟨b, o, sp⟩ := a
        simp only at hsp
        subst hsp
        have ead : ∀ x, (⟨b, o, none⟩ : Addr).add x = ⟨b, o + x, none⟩ := fun x => by unfold Addr.add; split <;> simp_all
        refine ⟨b, o, rfl, fun i q hq => ?_⟩
        have hil : i < len := by
          have := (List.getElem?_eq_some_iff.1 hq).1
          simpa using this
        have e : q = f i := by
          rw [List.getElem?_map, List.getElem?_range hil] at hq
          simpa using hq.symm
        subst e
        obtain ⟨k1, k3, _⟩ := hf i hil
        have c0 := k3 0 _ rfl
        have c1 := k3 1 _ rfl
        have c2 := k3 2 _ rfl
        have c3 := k3 3 _ rfl
        have c4 := k3 4 _ rfl
        have c5 := k3 5 _ rfl
        rw [ead] at c0 c1 c2 c3 c4 c5
        exact ⟨k1, c0, c1, c2, c3, c4, c5⟩
    · have hil : i < len := by
        have := (List.getElem?_eq_some_iff.1 hq).1
        simpa using this
      have e : q = f i := by
        rw [List.getElem?_map, List.getElem?_range hil] at hq
        simpa using hq.symm
      subst e
      exact (hf i hil).2.2

end

theorem weights_mem_all {H : Type} {P : Program} {e : TypeId} : ∀ {ds : List (DataW H)} {d : DataW H}, d ∈ ds → ∀ n ∈ d.weights P e, n ∈ DataW.weightsAll P e ds
  | [], d, hd, n, hn => by cases hd
  | d0 :: ds, d, hd, n, hn => by
    rw [DataW.weightsAll, List.mem_append]
    rcases List.mem_cons.1 hd with h | h
    · subst h; exact Or.inl hn
    · exact Or.inr (weights_mem_all h n hn)

variable {H : Type}
theorem script_sized {ts : List TypeId} {ds : List (DataW H)} (h : (DataW.weightsEach Tryz.prog ts ds).all (· ≤ reachBytes) = true) {d0 d1 d2 d3 dsc : DataW H} {ops : List OpV} (ht : ts[0]? = some 24) (hd : ds[0]? = some (.agg [d0, d1, d2, d3, dsc]))
    (hs : (dsc = .nil ∧ ops = []) ∨ ∃ (D : Nat → DataW H) (sp : List (DataW H)), dsc = .slice ((List.range ops.length).map D) sp ∧
        ∀ i q, ops[i]? = some q → ∃ e0 e1 e2 dp dk, D i = .agg [e0, e1, e2, .lit (.string q.text), dp, dk] ∧ ((dp = .nil ∧ q.pages = []) ∨ ∃ sp, dp = .slice (q.pages.map (fun k => .lit (.int .i64 k))) sp) ∧ ((dk = .nil ∧ q.kept = []) ∨ ∃ sp, dk = .slice (q.kept.map (fun k => .lit (.int .i64 k))) sp)) :
    ∀ (i : Nat) (p : OpV), ops[i]? = some p → p.kept.length * 8 ≤ 140737488355328 ∧ p.pages.length * 8 ≤ 140737488355328 := by
  intro i p hp
  rcases hs with ⟨_, rfl⟩ | ⟨D, sp, rfl, hD⟩
  · simp at hp
  obtain ⟨e0, e1, e2, dp, dk, hDi, hpd, hk⟩ := hD i p hp
  have hr : reachBytes = 140737488351232 := by kernel_rfl
  have hil : i < ops.length := (List.getElem?_eq_some_iff.1 hp).1
  have hw : DataW.weights Tryz.prog 47 (.agg [e0, e1, e2, .lit (.string p.text), dp, dk] : DataW H) = DataW.weightsEach Tryz.prog [3, 3, 3, 9, 38, 38] [e0, e1, e2, .lit (.string p.text), dp, dk] := by
    rw [DataW.weights, Tryz.underlying47]
    rfl
  have hw2 : DataW.weights Tryz.prog 24 (.agg [d0, d1, d2, d3, .slice ((List.range ops.length).map D) sp] : DataW H) = DataW.weightsEach Tryz.prog [9, 3, 3, 3, 22] [d0, d1, d2, d3, .slice ((List.range ops.length).map D) sp] := by
    rw [DataW.weights, Tryz.underlying24]
    rfl
  have up : ∀ x, x ∈ DataW.weightsEach Tryz.prog [3, 3, 3, 9, 38, 38] [e0, e1, e2, .lit (.string p.text), dp, dk] → x ≤ reachBytes := fun x hx => by
    rw [← hw, ← hDi] at hx
    have h3 := weights_mem_all (P := Tryz.prog) (e := 47) (ds := (List.range ops.length).map D) (List.mem_map.2 ⟨i, List.mem_range.2 hil, rfl⟩) _ hx
    have h4 : x ∈ DataW.weights Tryz.prog 22 (.slice ((List.range ops.length).map D) sp : DataW H) := by
      rw [DataW.weights, Tryz.underlying22]
      simp only [List.mem_cons, List.mem_append]
      exact Or.inr (Or.inl h3)
    have h5 := DataW.weights_mem_each (P := Tryz.prog) (ts := [9, 3, 3, 3, 22]) (ds := [d0, d1, d2, d3, .slice ((List.range ops.length).map D) sp]) (j := 4) rfl rfl _ h4
    rw [← hw2] at h5
    have h6 := List.all_eq_true.1 h _ (DataW.weights_mem_each ht hd _ h5)
    simpa using h6
  have key : ∀ (l : List Int) (d : DataW H) (j : Nat), ((d = .nil ∧ l = []) ∨ ∃ sp, d = .slice (l.map (fun k => .lit (.int .i64 k))) sp) → [3, 3, 3, 9, 38, 38][j]? = some 38 → ([e0, e1, e2, .lit (.string p.text), dp, dk] : List (DataW H))[j]? = some d → l.length * 8 ≤ 140737488355328 := by
    intro l d j hl h1 h2
    rcases hl with ⟨_, hl⟩ | ⟨sp2, rfl⟩
    · rw [hl]; simp
    have hb : Tryz.prog.bytesOf 3 = 8 := by kernel_rfl
    have h3 : (l.length + sp2.length) * 8 ∈ DataW.weights Tryz.prog 38 (.slice (l.map (fun k => DataW.lit (.int .i64 k))) sp2 : DataW H) := by
      rw [DataW.weights, Tryz.underlying38]
      simp [hb]
    have h4 := up _ (DataW.weights_mem_each (P := Tryz.prog) h1 h2 _ h3)
    rw [hr] at h4
    omega
  exact ⟨key _ _ 5 hk rfl rfl, key _ _ 4 hpd rfl rfl⟩

end Go.Proofs.YtjkhcfdflcndkaaGreat.D

/-
  The log's bytes: numbers, a record's sectors, what stands in an area. Plain lists. No condition.
-/
namespace Go.Proofs.YtjkhcfdflcndkaaGreat.D
set_option linter.unusedVariables false
set_option linter.unusedSimpArgs false

/-- The last k bytes of a number, the highest first. -/
def be : Nat → Nat → List UInt8
  | 0, _ => []
  | k + 1, n => be k (n / 256) ++ [UInt8.ofNat n]
def val (l : List UInt8) : Nat := l.foldl (fun n b => n * 256 + b.toNat) 0

theorem be_length : ∀ (k n : Nat), (be k n).length = k
  | 0, _ => rfl
  | k + 1, n => by simp [be, be_length k]
theorem val_snoc (l : List UInt8) (b : UInt8) : val (l ++ [b]) = val l * 256 + b.toNat := by simp [val]
theorem val_be : ∀ (k n : Nat), val (be k n) = n % 256 ^ k
  | 0, n => by simp [be, val, Nat.mod_one]
  | k + 1, n => by
    have e : (UInt8.ofNat n).toNat = n % 256 := by rw [UInt8.toNat_ofNat']
    have e2 : n % 256 ^ (k + 1) = n % 256 + 256 * (n / 256 % 256 ^ k) := by rw [Nat.pow_succ, Nat.mul_comm (256 ^ k) 256, Nat.mod_mul]
    rw [be, val_snoc, val_be k, e, e2]
    omega
theorem val_lt_rev : ∀ (l : List UInt8), val l.reverse < 256 ^ l.length
  | [] => by simp [val]
  | b :: l => by
    have ih := val_lt_rev l
    have hb := b.toNat_lt
    rw [List.reverse_cons, val_snoc, List.length_cons, Nat.pow_succ]
    omega
theorem val_lt (l : List UInt8) : val l < 256 ^ l.length := by
  have := val_lt_rev l.reverse
  rwa [List.reverse_reverse, List.length_reverse] at this
theorem be_inj {k n m : Nat} (hn : n < 256 ^ k) (hm : m < 256 ^ k) (h : be k n = be k m) : n = m := by
  have := congrArg val h
  rwa [val_be, val_be, Nat.mod_eq_of_lt hn, Nat.mod_eq_of_lt hm] at this
/-- From the highest on. -/
theorem be_head : ∀ (k n : Nat), be (k + 1) n = UInt8.ofNat (n / 256 ^ k) :: be k n
  | 0, n => by simp [be]
  | k + 1, n => by
    rw [be, be_head k, be]
    simp only [List.cons_append, List.cons.injEq, and_true]
    rw [Nat.div_div_eq_div_mul, Nat.pow_succ, Nat.mul_comm]

/-- How many sectors a record has. -/
def many (n : Nat) : Nat := max 1 ((n + 47) / 48)
/-- The i-th of a record's pieces. -/
def part (r : List UInt8) (i : Nat) : List UInt8 := (r.drop (48 * i)).take 48
def hdr (n i m p : Nat) : List UInt8 := be 8 n ++ be 2 i ++ be 2 m ++ be 2 p ++ [82, 87]
def one (n m : Nat) (r : List UInt8) (i : Nat) : List UInt8 := hdr n i m (part r i).length ++ part r i ++ List.replicate (48 - (part r i).length) 0
/-- A record's sectors. -/
def secsOf (n : Nat) (r : List UInt8) : List UInt8 := (List.range (many r.length)).flatMap (one n (many r.length) r)

theorem part_len (r : List UInt8) (i : Nat) : (part r i).length = min 48 (r.length - 48 * i) := by simp [part]
theorem hdr_len (n i m p : Nat) : (hdr n i m p).length = 16 := by simp [hdr, be_length]
theorem one_len (n m : Nat) (r : List UInt8) (i : Nat) : (one n m r i).length = 64 := by
  simp only [one, List.length_append, hdr_len, List.length_replicate]
  have := part_len r i
  omega
theorem flat_len (f : Nat → List UInt8) (c : Nat) (h : ∀ i, (f i).length = c) : ∀ m, ((List.range m).flatMap f).length = c * m
  | 0 => by simp
  | m + 1 => by simp [List.range_succ, flat_len f c h m, h, Nat.mul_succ]
theorem secsOf_len (n : Nat) (r : List UInt8) : (secsOf n r).length = 64 * many r.length := flat_len _ 64 (one_len n _ r) _
theorem flat_piece (f : Nat → List UInt8) (h : ∀ i, (f i).length = 64) : ∀ m i, i < m → piece ((List.range m).flatMap f) i = f i
  | 0, i, hi => by omega
  | m + 1, i, hi => by
    simp only [List.range_succ, List.flatMap_append, List.flatMap_cons, List.flatMap_nil, List.append_nil, piece]
    have hl := flat_len f 64 h m
    by_cases e : i = m
    · subst e
      rw [List.drop_append_of_le_length (by omega), List.drop_of_length_le (by omega), List.nil_append, List.take_of_length_le (by rw [h]; omega)]
    · have ih := flat_piece f h m i (by omega)
      rw [List.drop_append_of_le_length (by omega), List.take_append_of_le_length (by rw [List.length_drop]; omega)]
      exact ih
theorem secsOf_piece (n : Nat) (r : List UInt8) (i : Nat) (hi : i < many r.length) : piece (secsOf n r) i = one n (many r.length) r i := flat_piece _ (one_len n _ r) _ i hi

theorem cat_parts (r : List UInt8) : (List.range (many r.length)).flatMap (part r) = r := by
  have h : ∀ k, (List.range k).flatMap (part r) = r.take (48 * k) := by
    intro k
    induction k with
    | zero => simp
    | succ k ih => rw [List.range_succ, List.flatMap_append, ih]; simp [part, Nat.mul_succ, List.take_add]
  rw [h, List.take_of_length_le (by unfold many; omega)]

/-- The fields of a sector. -/
theorem one_no (n m : Nat) (r : List UInt8) (i : Nat) : (one n m r i).take 8 = be 8 n := by
  simp [one, hdr, be_length, List.append_assoc, List.take_append_of_le_length]
theorem one_many (n m : Nat) (r : List UInt8) (i : Nat) : ((one n m r i).drop 10).take 2 = be 2 m := by
  have h : one n m r i = (be 8 n ++ be 2 i) ++ (be 2 m ++ (be 2 (part r i).length ++ [82, 87] ++ part r i ++ List.replicate (48 - (part r i).length) 0)) := by simp [one, hdr]
  rw [h, List.drop_append_of_le_length (by simp [be_length]), List.drop_of_length_le (by simp [be_length]), List.nil_append, List.take_append_of_le_length (by simp [be_length]), List.take_of_length_le (by simp [be_length])]
theorem one_long (n m : Nat) (r : List UInt8) (i : Nat) : ((one n m r i).drop 12).take 2 = be 2 (part r i).length := by
  have h : one n m r i = (be 8 n ++ be 2 i ++ be 2 m) ++ (be 2 (part r i).length ++ ([82, 87] ++ part r i ++ List.replicate (48 - (part r i).length) 0)) := by simp [one, hdr]
  rw [h, List.drop_append_of_le_length (by simp [be_length]), List.drop_of_length_le (by simp [be_length]), List.nil_append, List.take_append_of_le_length (by simp [be_length]), List.take_of_length_le (by simp [be_length])]
theorem one_mark (n m : Nat) (r : List UInt8) (i : Nat) : ((one n m r i).drop 14).take 2 = [82, 87] := by
  have h : one n m r i = (be 8 n ++ be 2 i ++ be 2 m ++ be 2 (part r i).length) ++ ([82, 87] ++ (part r i ++ List.replicate (48 - (part r i).length) 0)) := by simp [one, hdr]
  rw [h, List.drop_append_of_le_length (by simp [be_length]), List.drop_of_length_le (by simp [be_length]), List.nil_append, List.take_append_of_le_length (by simp)]
  rfl
theorem one_part (n m : Nat) (r : List UInt8) (i : Nat) : ((one n m r i).drop 16).take (part r i).length = part r i := by
  have h : one n m r i = hdr n i m (part r i).length ++ (part r i ++ List.replicate (48 - (part r i).length) 0) := by simp [one]
  rw [h, List.drop_append_of_le_length (by simp [hdr_len]), List.drop_of_length_le (by simp [hdr_len]), List.nil_append, List.take_append_of_le_length (by simp), List.take_length]

/-- What a record's bytes are, of its sectors. -/
def body (a : List UInt8) (i : Nat) : List UInt8 := ((piece a i).drop 16).take (min 48 (val (((piece a i).drop 12).take 2)))
theorem body_of (n : Nat) (r : List UInt8) (i : Nat) (hi : i < many r.length) (a : List UInt8) (ha : piece a i = one n (many r.length) r i) : body a i = part r i := by
  unfold body
  rw [ha, one_long, val_be]
  have := part_len r i
  rw [Nat.mod_eq_of_lt (by omega), Nat.min_eq_right (by omega), one_part]

/-- Which record stands ahead, with this number. -/
def ahead (a : List UInt8) (n : Nat) : Option (List UInt8) :=
  if a.length < 64 ∨ (a.drop 14).take 2 ≠ [82, 87] then none
  else
    let k := val ((a.drop 10).take 2)
    if a.length < 64 * k then none
    else
      let r := (List.range k).flatMap (body a)
      if r.length ≤ 16384 ∧ 0 < k ∧ secsOf n r = a.take (64 * many r.length) then some r else none

end Go.Proofs.YtjkhcfdflcndkaaGreat.D
