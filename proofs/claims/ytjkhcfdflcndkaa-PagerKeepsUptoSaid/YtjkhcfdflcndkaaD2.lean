/-
  What the disk's small methods do.
-/
import Derived.Test.YtjkhcfdflcndkaaD1
namespace Go.Proofs.Ytjkhcfdflcndkaa.D
open Go.RowKit Go.Maps
set_option linter.unusedVariables false
set_option linter.unusedSimpArgs false

theorem fr_set1 (w : World) (g i : Nat) (u : Value) : Fr (· = g) w (w.setCell ⟨g, i, none⟩ u) := fr_set w g i u rfl
theorem fr_set2 (w : World) (g i j : Nat) (u v : Value) : Fr (· = g) w ((w.setCell ⟨g, i, none⟩ u).setCell ⟨g, j, none⟩ v) :=
  (fr_set1 w g i u).trans (fr_set1 _ g j v) (fun _ _ h => h)
theorem hid {p : Prop} (h : p) : Hid p := h

/-- (*Disk).step. -/
theorem step_c (w : World) (g bm : Nat) (s : St) (h : At w g bm s) (hs : s.Ok) :
    Calls Try.prog 50 #[.pointer (some ⟨g, 0, none⟩)] w fun e w' => e = .returned (.bool s.step.2) ∧ At w' g bm s.step.1 ∧ Fr (· = g) w w' := by
  have HA := hid h
  obtain ⟨⟨kv, h1, h2⟩, h3⟩ := h
  have c2 : w.cell? ⟨g, 2, none⟩ = some (.int .i64 s.armed) := cell_at h1 2
  have f2 : w.frozen? ⟨g, 2, none⟩ = false := frozen_at h1 2
  have ha := hs.armed
  clear h1 h2 h3 hs
  go_enter Try.func50, Try.ntmps50
  go_wp2
  · rename_i h0
    have h0 : s.armed = 0 := by simpa using h0
    go_ret
    have e1 : s.step = (s, false) := by simp [St.step, h0]
    rw [e1]
    exact ⟨rfl, HA.out, Fr.refl _ _⟩
  · rename_i h0
    have h0 : s.armed ≠ 0 := by simpa using h0
    go_ret
    have e1 : s.step = ({ s with armed := s.armed - 1 }, s.armed == 1) := by simp [St.step, h0]
    have e2 : ((s.armed : Int) - 1 == 0) = (s.armed == 1) := by rw [Bool.eq_iff_iff]; simp; omega
    have e3 : ((s.armed : Int) - 1) = ((s.armed - 1 : Nat) : Int) := by omega
    rw [e1, e2, e3]
    exact ⟨rfl, HA.out.cellsSet 2 _ (fun kv => rfl) rfl rfl, fr_set1 _ _ _ _⟩

/-- (*Disk).Count. -/
theorem count_c (w : World) (g bm : Nat) (s : St) (h : At w g bm s) (hs : s.Ok) :
    Calls Try.prog 42 #[.pointer (some ⟨g, 0, none⟩)] w fun e w' => e = .returned (.int .i64 s.n) ∧ w' = w := by
  obtain ⟨⟨kv, h1, h2⟩, h3⟩ := h
  have c0 : w.cell? ⟨g, 0, none⟩ = some (.string (bs s.safe)) := cell_at h1 0
  have ha := hid hs
  have h64 : s.safe.length ≤ 262144 := by have := hs.safe; have := hs.n2; omega
  clear h1 h2 h3 hs
  go_enter Try.func42, Try.ntmps42
  go_wp2
  go_ret
  exact ⟨rfl, rfl⟩

/-- (*Disk).Dead. -/
theorem dead_c (w : World) (g bm : Nat) (s : St) (h : At w g bm s) :
    Calls Try.prog 17 #[.pointer (some ⟨g, 0, none⟩)] w fun e w' => e = .returned (.bool s.dead) ∧ w' = w := by
  obtain ⟨⟨kv, h1, h2⟩, h3⟩ := h
  have c0 : w.cell? ⟨g, 4, none⟩ = some (.bool s.dead) := cell_at h1 4
  clear h1 h2 h3
  go_enter Try.func17, Try.ntmps17
  go_wp2
  go_ret
  exact ⟨rfl, rfl⟩

/-- (*Disk).Revive. -/
theorem revive_c (w : World) (g bm : Nat) (s : St) (h : At w g bm s) :
    Calls Try.prog 19 #[.pointer (some ⟨g, 0, none⟩)] w fun e w' => e = .returned (.tuple #[]) ∧ At w' g bm { s with armed := 0, dead := false } ∧ Fr (· = g) w w' := by
  have HA := hid h
  obtain ⟨⟨kv, h1, h2⟩, h3⟩ := h
  have HC := hid h1
  have f2 : w.frozen? ⟨g, 2, none⟩ = false := frozen_at h1 2
  have f4 : w.frozen? ⟨g, 4, none⟩ = false := frozen_at h1 4
  have c2 : w.cell? ⟨g, 2, none⟩ = some (.int .i64 s.armed) := cell_at h1 2
  have c4 : w.cell? ⟨g, 4, none⟩ = some (.bool s.dead) := cell_at h1 4
  clear h1 h2 h3
  go_enter Try.func19, Try.ntmps19
  go_wp2
  go_end0
  exact ⟨rfl, (HA.out.cellsSet (s' := { s with armed := 0 }) 2 _ (fun kv => rfl) rfl rfl).cellsSet 4 _ (fun kv => rfl) rfl rfl, fr_set2 w g 2 4 _ _⟩

/-- (*Disk).becomes. -/
theorem becomes_c (w : World) (g bm : Nat) (s : St) (l : List UInt8) (h : At w g bm s) :
    Calls Try.prog 51 #[.pointer (some ⟨g, 0, none⟩), .string (bs l)] w fun e w' => e = .returned (.tuple #[]) ∧ At w' g w.heap.size (s.becomes l) ∧ Fr (· = g) w w' := by
  have HA := hid h
  obtain ⟨⟨kv, h1, h2⟩, h3⟩ := h
  have HC := hid h1
  have f0 : w.frozen? ⟨g, 0, none⟩ = false := frozen_at h1 0
  have f1 : w.frozen? ⟨g, 1, none⟩ = false := frozen_at h1 1
  have c0 : w.cell? ⟨g, 0, none⟩ = some (.string (bs s.safe)) := cell_at h1 0
  have c1 : w.cell? ⟨g, 1, none⟩ = some (.map (some bm)) := cell_at h1 1
  have hmm := @run_makeMap Try.prog
  have hb : g < w.heap.size := lt_of_at h1
  clear h1 h2 h3
  go_enter Try.func51, Try.ntmps51
  go_wp2
  go_end0
  have hf : Fr (· = g) w (((w.setCell ⟨g, 0, none⟩ (.string (bs l))).setCell ⟨g, 1, none⟩ (.map (some w.heap.size)))) := fr_set2 w g 0 1 _ _
  have hz : (((w.setCell ⟨g, 0, none⟩ (.string (bs l))).setCell ⟨g, 1, none⟩ (.map (some w.heap.size)))).heap.size = w.heap.size := by simp [World.setCell]
  have hA := HA.out
  obtain ⟨⟨kv', h1, h2⟩, _⟩ := hA
  refine ⟨rfl, ⟨⟨kv', ?_, ?_⟩, 0, .map [], ?_, ⟨fun i => ?_, fun i z => ?_⟩, ?_⟩, hf.alloc _⟩
  · rw [Below.heap_alloc _ _ _ (by rw [hz]; exact hb), set_at (set_at h1 0 _) 1 _]
    rfl
  · exact h2.keep (hf.alloc _) (fun b cur hb' e => by subst e; rw [h1] at hb'; cases hb')
  · have := World.ownsMap_made ((w.setCell ⟨g, 0, none⟩ (.string (bs l))).setCell ⟨g, 1, none⟩ (.map (some w.heap.size))) Try.prog 3 (plainElem (H := Unit) Try.prog 9)
    rwa [hz] at this
  · rfl
  · rfl
  · intro k hk; cases hk

/-- Image's function. -/
theorem all_c (i : Int) (w : World) : Calls Try.prog 63 #[.int .i64 i] w fun e w' => e = .returned (.bool true) ∧ Fr (fun _ => False) w w' := by
  go_enter Try.func63, Try.ntmps63
  go_wp2
  go_ret
  exact ⟨rfl, Fr.refl _ _⟩

/-- After's function: its captured variable is block c. -/
theorem comes_c (i : Nat) (c : Nat) (v : Value) (ks : List Int) (w : World) (hc : w.heap[c]? = some (.cells #[v] 39)) (hv : IntsV w v ks) :
    Calls Try.prog 64 #[.int .i64 i, .pointer (some ⟨c, 0, none⟩)] w fun e w' => e = .returned (.bool (comes ks i)) ∧ Fr (fun _ => False) w w' := by
  obtain ⟨a, cap, rfl, hlen, h2⟩ := hv
  have c0 : w.cell? ⟨c, 0, none⟩ = some (.slice a ks.length cap) := cell_at hc 0
  by_cases hi : i < ks.length
  · obtain ⟨b, o, rfl, h3⟩ : ∃ b o, a = some ⟨b, o, none⟩ ∧ ∀ j, j < ks.length → w.cell? ⟨b, o + j, none⟩ = some (.int .i64 (ks.getD j 0)) := by
      rcases h2 with h2 | h2
      · subst h2; simp at hi
      · exact h2
    have ce : w.cell? ⟨b, o + i, none⟩ = some (.int .i64 (ks.getD i 0)) := h3 i hi
    have hr : comes ks i = decide (0 < ks.getD i 0) := by simp only [comes, hi, decide_true, Bool.true_and]
    rw [hr]
    generalize ks.getD i 0 = k at ce
    clear h2 h3 hr hc
    go_enter Try.func64, Try.ntmps64
    go_wp2
    all_goals (go_ret; exact ⟨rfl, Fr.refl _ _⟩)
  · have hr : comes ks i = false := by simp only [comes, hi, decide_false, Bool.false_and]
    rw [hr]
    clear h2 hc hr
    go_enter Try.func64, Try.ntmps64
    go_wp2
    all_goals (go_ret; exact ⟨rfl, Fr.refl _ _⟩)

end Go.Proofs.Ytjkhcfdflcndkaa.D
