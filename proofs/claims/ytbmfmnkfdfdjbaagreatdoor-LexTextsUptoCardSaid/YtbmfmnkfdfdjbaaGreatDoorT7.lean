/-
  A slice of bytes that grows; a slice of numbers as it reads. No condition.
-/
import Derived.Test.YtbmfmnkfdfdjbaaGreatDoorLE
import Derived.Laws.OwnMore
import Derived.Lib.AppendZeros
import Derived.Lib.AppendStr
import Derived.Lib.SmallJoins
namespace Go.Proofs.YtbmfmnkfdfdjbaaGreatDoor.D
open Go.RowKit Go.Shelf
set_option linter.unusedVariables false
set_option linter.unusedSimpArgs false

/-- A slice of the call's own that holds these bytes. -/
def Rw (w : World) (B : Nat) (v : Value) (l : List UInt8) : Prop := w.ownsRow B 5 1 v l.length (Lib.byteCells l) ∧ ∃ g cap, v = .slice (some ⟨g, 0, none⟩) l.length cap
theorem Rw.own {w : World} {B : Nat} {v : Value} {l : List UInt8} (h : Rw w B v l) {i : Nat} (hi : v.ownBlock = some i) : B ≤ i ∧ ∃ c T, w.heap[i]? = some (.cells c T) := by
  rcases h.1.2 with ⟨rfl, _⟩ | ⟨g, cap, cur, rfl, h2, h3, _⟩
  · cases hi
  · have : g = i := by simpa [Value.ownBlock] using hi
    subst this
    exact ⟨h2, _, _, h3⟩
theorem Rw.keep {A : Nat → Prop} {w w' : World} {B : Nat} {v : Value} {l : List UInt8} (h : Rw w B v l) (hf : Fr A w w') (hA : ∀ i, B ≤ i → ¬ A i) : Rw w' B v l := by
  refine ⟨⟨h.1.1, ?_⟩, h.2⟩
  rcases h.1.2 with h0 | ⟨g, cap, cur, h1, h2, h3, h4⟩
  · exact Or.inl h0
  · exact Or.inr ⟨g, cap, cur, h1, h2, hf.at h3 (hA g h2), h4⟩
theorem Rw.stay {w w' : World} {B : Nat} {v : Value} {l : List UInt8} (h : Rw w B v l) (hf : Fr (fun _ => False) w w') : Rw w' B v l := h.keep hf (fun _ _ f => f)
theorem rw_new (W : World) : Rw (W.alloc (.cells #[] 5)) W.heap.size (.slice (some ⟨W.heap.size, 0, none⟩) 0 0) [] :=
  ⟨World.ownsRow_lit (e := 5) (size := 1) (base := W.heap.size) W #[] 0 (Nat.le_refl _) (by unfold maxLen; omega) rfl, _, _, rfl⟩
set_option maxRecDepth 100000 in
theorem append_str (W : World) (B : Nat) (v : Value) (l m : List UInt8) (h : Rw W B v l) (hl : l.length + m.length ≤ 100000000000000) (hB : B ≤ W.heap.size) :
    ∃ v' W', (Builtin.append_ #[35, 9] 35 #[v, .string (bs m)]).run Tryz.prog W = .ok v' W' ∧ Rw W' B v' (l ++ m) ∧ Fr (fun i => v.ownBlock = some i) W W' := by
  obtain ⟨i0, hi, hz0, hz1, hz2⟩ := info_parts (show (Tryz.prog.info? 5).map (fun i => (i.zero, i.size, i.bytes)) = some (some (.int .u8 0), 1, 1) by kernel_rfl)
  obtain ⟨v', w', hrun, hown, hgr, hnil⟩ := Lib.run_append_own_string (P := Tryz.prog) W B 35 9 35 5 i0 Tryz.underlying35 Tryz.underlying9 hi hz0 hz1 hz2
    v l.length (Lib.byteCells l) h.1 (bs m) (by rw [size_bs]; unfold maxLen; omega) (by rw [size_bs]; omega) hB
  have e0 : (bs m).data.toList = m := by simp [bs]
  rw [size_bs, Lib.strCells_eq, e0, ← Lib.byteCells_append, ← List.length_append] at hown
  refine ⟨v', w', hrun, ⟨hown, ?_⟩, ⟨hgr.os, hgr.tape, hgr.output, hgr.size, fun i hi hn => hgr.block i hi (fun e => hn (by simpa using e.symm))⟩⟩
  rcases hown.2 with ⟨e, _⟩ | ⟨g, cap, cur, e, _⟩
  · obtain ⟨g, cap, hv⟩ := h.2
    have := (hnil.1 e).1
    rw [hv] at this
    cases this
  · exact ⟨g, cap, e⟩
set_option maxRecDepth 100000 in
theorem Rw.conv {w : World} {B : Nat} {v : Value} {l : List UInt8} (h : Rw w B v l) : (convert 35 9 v).run Tryz.prog w = .ok (.string (bs l)) w := by
  obtain ⟨⟨h0, h1⟩, g, cap, rfl⟩ := h
  rcases h1 with ⟨e, _⟩ | ⟨g', cap', cur, e, h2, h3, h4, h5, h6, h7⟩
  · cases e
  · injection e with e1 e2 e3
    injection e1 with e1
    injection e1 with e1 _ _
    subst e1 e3
    refine run_convert_bytes_back (l := l) w 35 9 5 ⟨g, 0, none⟩ cap Tryz.underlying35 Tryz.underlying5 Tryz.underlying9 (fun j hj => ?_)
    have e1 : (⟨g, 0, none⟩ : Addr).add j = ⟨g, j, none⟩ := by unfold Addr.add; split <;> simp_all
    rw [e1, cell_at h3]
    have : (Lib.byteCells l)[j]? = some (.int .u8 (l[j].toNat : Int)) := by simp [Lib.byteCells, hj]
    rw [← h7, List.getElem?_take, if_pos (by omega)] at this
    simpa using this

/-! ### numbers -/
/-- A slice that reads as these numbers. -/
def IV (w : World) (v : Value) (ks : List Int) : Prop := ∃ A cap, v = .slice A ks.length cap ∧ ks.length ≤ cap ∧ cap ≤ 9223372036854775807 ∧ (ks = [] ∨ ∃ b o, A = some ⟨b, o, none⟩ ∧ ∀ j, j < ks.length → w.cell? ⟨b, o + j, none⟩ = some (.int .i64 (ks.getD j 0)))

end Go.Proofs.YtbmfmnkfdfdjbaaGreatDoor.D
