/-
  A script's numbers that are kept are no more than memory bears. No condition.
-/
import Derived.Test.YtcklnhjjjapfjaaArgW
namespace Go.Proofs.Ytcklnhjjjapfjaa.D
open Go.ChangeShapes Go.WideShapes Go.ChangeAt Go.RowKit Go.Deep Go.Joins
set_option linter.unusedVariables false

theorem weights_mem_all {H : Type} {P : Program} {e : TypeId} : ∀ {ds : List (DataW H)} {d : DataW H}, d ∈ ds → ∀ n ∈ d.weights P e, n ∈ DataW.weightsAll P e ds
  | [], d, hd, n, hn => by cases hd
  | d0 :: ds, d, hd, n, hn => by
    rw [DataW.weightsAll, List.mem_append]
    rcases List.mem_cons.1 hd with h | h
    · subst h; exact Or.inl hn
    · exact Or.inr (weights_mem_all h n hn)

variable {H : Type}
theorem script_sized {ts : List TypeId} {ds : List (DataW H)} (h : (DataW.weightsEach Try.prog ts ds).all (· ≤ reachBytes) = true) {dz dsc : DataW H} {ops : List (OpV × List Int)} (ht : ts[0]? = some 49) (hd : ds[0]? = some (.agg [dz, dsc]))
    (hs : (dsc = .nil ∧ ops = []) ∨ ∃ (D : Nat → DataW H) (sp : List (DataW H)), dsc = .slice ((List.range ops.length).map D) sp ∧
        ∀ i q, ops[i]? = some q → ∃ e0 e1 e2 e3 dk, D i = .agg [e0, e1, e2, e3, dk] ∧ ((dk = .nil ∧ q.2 = []) ∨ ∃ sp, dk = .slice (q.2.map (fun k => .lit (.int .i64 k))) sp)) :
    ∀ (i : Nat) (p : OpV × List Int), ops[i]? = some p → p.2.length * 8 ≤ 140737488355328 := by
  intro i p hp
  rcases hs with ⟨_, rfl⟩ | ⟨D, sp, rfl, hD⟩
  · simp at hp
  obtain ⟨e0, e1, e2, e3, dk, hDi, hk⟩ := hD i p hp
  rcases hk with ⟨_, hk⟩ | ⟨sp2, rfl⟩
  · rw [hk]; simp
  have hb : Try.prog.bytesOf 3 = 8 := by kernel_rfl
  have hr : reachBytes = 140737488351232 := by kernel_rfl
  have h1 : (p.2.length + sp2.length) * 8 ∈ DataW.weights Try.prog 32 (.slice (p.2.map (fun k => DataW.lit (.int .i64 k))) sp2 : DataW H) := by
    rw [DataW.weights, Try.underlying32]
    simp [hb]
  have hw : DataW.weights Try.prog 36 (.agg [e0, e1, e2, e3, .slice (p.2.map (fun k => DataW.lit (.int .i64 k))) sp2] : DataW H) = DataW.weightsEach Try.prog [3, 3, 3, 5, 32] [e0, e1, e2, e3, .slice (p.2.map (fun k => DataW.lit (.int .i64 k))) sp2] := by
    rw [DataW.weights, Try.underlying36]
    rfl
  have h2 := DataW.weights_mem_each (P := Try.prog) (ts := [3, 3, 3, 5, 32]) (ds := [e0, e1, e2, e3, .slice (p.2.map (fun k => DataW.lit (.int .i64 k))) sp2]) (j := 4) rfl rfl _ h1
  rw [← hw, ← hDi] at h2
  have hil : i < ops.length := (List.getElem?_eq_some_iff.1 hp).1
  have h3 := weights_mem_all (P := Try.prog) (e := 36) (ds := (List.range ops.length).map D) (List.mem_map.2 ⟨i, List.mem_range.2 hil, rfl⟩) _ h2
  have h4 : (p.2.length + sp2.length) * 8 ∈ DataW.weights Try.prog 47 (.slice ((List.range ops.length).map D) sp : DataW H) := by
    rw [DataW.weights, Try.underlying47]
    simp only [List.mem_cons, List.mem_append]
    exact Or.inr (Or.inl h3)
  have hw2 : DataW.weights Try.prog 49 (.agg [dz, .slice ((List.range ops.length).map D) sp] : DataW H) = DataW.weightsEach Try.prog [3, 47] [dz, .slice ((List.range ops.length).map D) sp] := by
    rw [DataW.weights, Try.underlying49]
    rfl
  have h5 := DataW.weights_mem_each (P := Try.prog) (ts := [3, 47]) (ds := [dz, .slice ((List.range ops.length).map D) sp]) (j := 1) rfl rfl _ h4
  rw [← hw2] at h5
  have h6 := List.all_eq_true.1 h _ (DataW.weights_mem_each ht hd _ h5)
  simp only [decide_eq_true_eq, hr] at h6
  omega

end Go.Proofs.Ytcklnhjjjapfjaa.D
