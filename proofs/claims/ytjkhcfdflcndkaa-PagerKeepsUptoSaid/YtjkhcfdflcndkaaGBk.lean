/-
  What a bulk of at most 1048576 says of a script: its rows of numbers are short. Conditions as named.
-/
import Derived.Test.YtjkhcfdflcndkaaRows
import Derived.Test.YtjkhcfdflcndkaaGAW
namespace Go.Proofs.Ytjkhcfdflcndkaa.D
open Go.ChangeShapes Go.WideShapes Go.ChangeAt Go.RowKit
set_option linter.unusedVariables false

theorem blk_one {H : Type} (d : DataW H) : 1 ≤ Rows.uptoBulk d := by
  cases d with
  | lit l => cases l <;> simp [Rows.uptoBulk]
  | nil => simp [Rows.uptoBulk]
  | ptr d => simp [Rows.uptoBulk]
  | slice elems spare => simp [Rows.uptoBulk]
  | agg parts => simp [Rows.uptoBulk]
  | iface t d => simp [Rows.uptoBulk]
  | map entries => simp [Rows.uptoBulk]
  | held h => simp [Rows.uptoBulk]
theorem blk_part {H : Type} {d : DataW H} : ∀ {l : List (DataW H)}, d ∈ l → Rows.uptoBulk d ≤ Rows.uptoBulkAll l
  | [], h => by cases h
  | x :: r, h => by
    simp only [Rows.uptoBulkAll]
    rcases List.mem_cons.1 h with e | e
    · subst e; omega
    · have := blk_part e; omega
theorem blk_length {H : Type} : ∀ (l : List (DataW H)), l.length ≤ Rows.uptoBulkAll l
  | [] => by simp [Rows.uptoBulkAll]
  | x :: r => by
    have := blk_one x
    have := blk_length r
    simp only [Rows.uptoBulkAll, List.length_cons]
    omega

theorem script_bulk {H : Type} {d0 d1 d2 d3 dsc : DataW H} {ops : List OpV} (hk : Rows.uptoSmall H [.agg [d0, d1, d2, d3, dsc]] = true)
    (hs : (dsc = .nil ∧ ops = []) ∨ ∃ (D : Nat → DataW H) (sp : List (DataW H)), dsc = .slice ((List.range ops.length).map D) sp ∧
        ∀ i q, ops[i]? = some q → ∃ e0 e1 e2 dp dk, D i = .agg [e0, e1, e2, .lit (.string q.text), dp, dk] ∧ ((dp = .nil ∧ q.pages = []) ∨ ∃ sp, dp = .slice (q.pages.map (fun k => .lit (.int .i64 k))) sp) ∧ ((dk = .nil ∧ q.kept = []) ∨ ∃ sp, dk = .slice (q.kept.map (fun k => .lit (.int .i64 k))) sp)) :
    ∀ (i : Nat) (p : OpV), ops[i]? = some p → p.kept.length * 8 ≤ 140737488355328 ∧ p.pages.length ≤ 1099511627776 := by
  intro i p hp
  have h : Rows.uptoBulkAll [DataW.agg [d0, d1, d2, d3, dsc]] ≤ 1048576 := of_decide_eq_true hk
  simp only [Rows.uptoBulkAll, Rows.uptoBulk] at h
  rcases hs with ⟨_, rfl⟩ | ⟨D, sp, rfl, hD⟩
  · simp at hp
  obtain ⟨e0, e1, e2, dp, dk, hDi, hpd, hkd⟩ := hD i p hp
  have hil : i < ops.length := (List.getElem?_eq_some_iff.1 hp).1
  have h1 := blk_part (d := D i) (l := (List.range ops.length).map D) (List.mem_map.2 ⟨i, List.mem_range.2 hil, rfl⟩)
  simp only [Rows.uptoBulk] at h
  rw [hDi] at h1
  simp only [Rows.uptoBulkAll, Rows.uptoBulk] at h1
  have key : ∀ (l : List Int) (d : DataW H), ((d = .nil ∧ l = []) ∨ ∃ sp, d = .slice (l.map (fun k => .lit (.int .i64 k))) sp) → l.length ≤ Rows.uptoBulk d := by
    intro l d hl
    rcases hl with ⟨_, hl⟩ | ⟨sp2, rfl⟩
    · rw [hl]; simp
    have := blk_length (H := H) (l.map (fun k => DataW.lit (.int .i64 k)))
    rw [List.length_map] at this
    simp only [Rows.uptoBulk]
    omega
  have k1 := key _ _ hpd
  have k2 := key _ _ hkd
  omega

end Go.Proofs.Ytjkhcfdflcndkaa.D
