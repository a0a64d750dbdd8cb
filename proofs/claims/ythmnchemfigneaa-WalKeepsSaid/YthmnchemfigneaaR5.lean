/-
  The document's disk: Crash, Arm, Same. No condition beyond the disk's own.
-/
import Derived.Test.YthmnchemfigneaaR4
namespace Go.Proofs.Ythmnchemfigneaa.D
open Go.RowKit Go.Maps Go.Shelf
set_option linter.unusedVariables false
set_option linter.unusedSimpArgs false

/-- The document's disk turns into S. -/
def RTurn (w : World) (g b1 b2 : Nat) (S : St) (w' : World) : Prop :=
  (∃ b1' b2', RA w' g b1' b2' S ∧ (b1' = b1 ∨ w.heap.size ≤ b1') ∧ (b2' = b2 ∨ w.heap.size ≤ b2')) ∧ Fr (fun i => i = g ∨ i = b1 ∨ i = b2) w w'

theorem RTurn.self {w : World} {g b1 b2 : Nat} {S : St} (h : RA w g b1 b2 S) : RTurn w g b1 b2 S w := ⟨⟨b1, b2, h, Or.inl rfl, Or.inl rfl⟩, Fr.refl _ _⟩

/-- Numbers appended onto a new, empty row. -/
theorem append_ints (w : World) (kv : Value) (ks : List Int) (hk : IntsV w kv ks) (hkl : ks.length * 8 ≤ 140737488355328) :
    ∃ v' w', (Builtin.append_ #[48, 48] 48 #[.slice (some ⟨w.heap.size, 0, none⟩) 0 0, kv]).run Try.prog (w.alloc (.cells #[] 3)) = .ok v' w' ∧ IntsAt w' v' ks ∧ (∃ a n c, v' = .slice a n c) ∧ Fr (fun _ => False) w w' := by
  obtain ⟨i0, hi, hz0, hz1, hz2⟩ := info_parts (show (Try.prog.info? 3).map (fun i => (i.zero, i.size, i.bytes)) = some (some (.int .i64 0), 1, 8) by kernel_rfl)
  have hF0 : Fr (fun _ => False) w (w.alloc (.cells #[] 3)) := (Fr.refl _ w).alloc _
  obtain ⟨a, cap, rfl, hlen, hr⟩ := hk.stay hF0
  have hown := World.ownsRow_made (base := w.heap.size) (e := 3) (size := 1) w #[] 0 (Nat.le_refl _) (Nat.zero_le _) (by simp)
  have fin : ∀ (ad : Addr), a = some ad → (∀ j u, (ks.map (Value.int .i64))[j]? = some u → (w.alloc (.cells #[] 3)).cell? (ad.add j) = some u) →
      ∃ v' w', (Builtin.append_ #[48, 48] 48 #[.slice (some ⟨w.heap.size, 0, none⟩) 0 0, .slice (some ad) ks.length cap]).run Try.prog (w.alloc (.cells #[] 3)) = .ok v' w' ∧ IntsAt w' v' ks ∧ (∃ a n c, v' = .slice a n c) ∧ Fr (fun _ => False) w w' := by
    intro ad _ hcell
    obtain ⟨v', w2, hrun, hown2, hgr2, hnil⟩ := run_append_own (P := Try.prog) (w.alloc (.cells #[] 3)) w.heap.size 48 48 3 i0 (.int .i64 0) 1 8 Try.underlying48 hi hz0 hz1 hz2 rfl (by decide)
      (.slice (some ⟨w.heap.size, 0, none⟩) 0 0) 0 [] hown ad ks.length cap (ks.map (Value.int .i64)) (by simp) hcell (by
        intro u hu
        obtain ⟨x, _, rfl⟩ := List.mem_map.1 hu
        rfl) (by unfold maxLen; omega) (by omega) (by simp)
    refine ⟨v', w2, hrun, ?_, ?_, hF0.grown hgr2 (by intro k hk hl; simp [Value.ownBlock] at hk; omega)⟩
    · rw [Nat.zero_add, List.nil_append] at hown2
      rcases hown2.2 with ⟨h0, _⟩ | ⟨b2, cap2, cur, rfl, hb1, hb2, hb3, hb4, hb5, hb6⟩
      · exact absurd (hnil.1 h0).1 (by simp)
      · refine ⟨some ⟨b2, 0, none⟩, cap2, rfl, hlen, Or.inr ⟨b2, 0, cur, rfl, hb2, fun j hj => ?_⟩, fun x hx => by cases hx; rfl⟩
        have h5 : (cur.toList.take (ks.length * 1))[j]? = (ks.map (Value.int .i64))[j]? := by rw [hb6]
        rw [List.getElem?_take_of_lt (by omega)] at h5
        rw [Nat.zero_add]
        have h6 : cur[j]? = cur.toList[j]? := by simp
        rw [h6, h5]
        simp [hj, List.getD_eq_getElem?_getD]
    · rcases hown2.2 with ⟨h0, _⟩ | ⟨b2, cap2, cur, rfl, _⟩
      · exact ⟨_, _, _, h0⟩
      · exact ⟨_, _, _, rfl⟩
  cases a with
  | some ad =>
    refine fin ad rfl ?_
    rcases hr with hr | ⟨b, o, e0, h5⟩
    · subst hr
      intro j u hj
      simp at hj
    · injection e0 with e0
      subst e0
      intro j u hj
      have hj' : j < ks.length := by have := (List.getElem?_eq_some_iff.1 hj).1; simpa using this
      have e1 : (⟨b, o, none⟩ : Addr).add j = ⟨b, o + j, none⟩ := by unfold Addr.add; split <;> simp_all
      rw [e1, h5 j hj']
      simp [hj'] at hj
      rw [← hj]
      simp [List.getD_eq_getElem?_getD, hj']
  | none =>
    have hk0 : ks = [] := by
      rcases hr with hr | ⟨b, o, e, _⟩
      · exact hr
      · cases e
    subst hk0
    refine ⟨.slice (some ⟨w.heap.size, 0, none⟩) 0 0, w.alloc (.cells #[] 3), ?_, ⟨some ⟨w.heap.size, 0, none⟩, 0, rfl, by simp, Or.inl rfl, fun x hx => by cases hx; rfl⟩, ⟨_, _, _, rfl⟩, hF0⟩
    have ht := run_underlying (P := Try.prog) Try.underlying48
    simp [Builtin.append_, ht, sizeOf, typeInfo, hi, Builtin.lenOf, Builtin.firstCells, loadCells, loadCellsFrom, storeCells]

end Go.Proofs.Ythmnchemfigneaa.D
