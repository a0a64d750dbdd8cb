/-
  Both disks and both logs in one memory. No condition.
-/
import Derived.Test.YthmnchemfigneaaGreatZ3
import Derived.Test.YthmnchemfigneaaGreatWArW
import Derived.Deep.DeepCutAuto
import Derived.Deep.CutBlock
import Derived.Deep.CutRange
namespace Go.Proofs.YthmnchemfigneaaGreat.D
open Go.RowKit Go.Maps Go.Shelf
set_option linter.unusedVariables false
set_option linter.unusedSimpArgs false

theorem at_map {w : World} {g bm : Nat} {s : St} (h : At w g bm s) {b : Nat} {c : Array Value} {T : TypeId} (hb : w.heap[b]? = some (.cells c T)) : bm ≠ b := by
  obtain ⟨⟨kv, h1, _⟩, m, D, ⟨es, clock, h2, _⟩, _⟩ := h
  rintro rfl
  rw [hb] at h2
  cases h2
theorem at_cells {w : World} {g bm : Nat} {s : St} (h : At w g bm s) : ∃ c, w.heap[g]? = some (.cells c 75) := by
  obtain ⟨⟨kv, h1, _⟩, _⟩ := h
  exact ⟨_, h1⟩
theorem ra_blocks {w : World} {m b1 b2 : Nat} {s : St} (h : RA w m b1 b2 s) : (∃ c, w.heap[m]? = some (.cells c 78)) ∧ (∃ c, w.heap[b1]? = some (.cells c 9)) ∧ (∃ c, w.heap[b2]? = some (.cells c 9)) := by
  obtain ⟨⟨c1, c2, kv, h1, hi⟩, ⟨x, h3, hx⟩, ⟨y, h4, hy⟩, h5⟩ := h
  exact ⟨⟨_, h1⟩, ⟨_, h3⟩, ⟨_, h4⟩⟩

/-- What the program's log and disk do not write. -/
theorem apart3 {w : World} {g bm k : Nat} {S : St} {L : LSt} (hd : At w g bm S) (hl : LogAt w k g L) {b : Nat} {c : Array Value} {T : TypeId} (hb : w.heap[b]? = some (.cells c T)) (h1 : T ≠ 61) (h2 : T ≠ 75) : ¬ (b = k ∨ b = g ∨ b = bm) := by
  rintro (e | e | e)
  · exact other_cells hb hl h1 e
  · obtain ⟨c', hc⟩ := at_cells hd
    exact other_cells hb hc h2 e
  · exact at_map hd hb e.symm
/-- What the document's log and disk do not write. -/
theorem apart4 {w : World} {m b1 b2 k : Nat} {R : St} {M : LSt} (hd : RA w m b1 b2 R) (hl : RLogAt w k m M) {b : Nat} {c : Array Value} {T : TypeId} (hb : w.heap[b]? = some (.cells c T)) (h1 : T ≠ 50) (h2 : T ≠ 78) (h3 : T ≠ 9) : ¬ (b = k ∨ b = m ∨ b = b1 ∨ b = b2) := by
  rintro (e | e)
  · exact other_cells hb hl h1 e
  · exact rcells_apart hd hb h2 h3 e

structure LJ (W w : World) (g bm m b1 b2 k kr N : Nat) (S R : St) (L M : LSt) : Prop where
  dj : DJ W w g bm m b1 b2 N S R
  log : LogAt w k g L
  rlog : RLogAt w kr m M
  low : W.heap.size ≤ k ∧ W.heap.size ≤ kr

section
variable {W w w' : World} {g bm m b1 b2 k kr N : Nat} {S R : St} {L M : LSt}

theorem LJ.stay (h : LJ W w g bm m b1 b2 k kr N S R L M) (hf : Fr (fun _ => False) w w') : LJ W w' g bm m b1 b2 k kr N S R L M :=
  ⟨h.dj.stay hf, h.log.stay hf, h.rlog.stay hf, h.low⟩

theorem RA.beside3 {k0 g0 bm0 : Nat} {S0 : St} {L0 : LSt} (h : RA w m b1 b2 R) (hd : At w g0 bm0 S0) (hl : LogAt w k0 g0 L0) (hf : Fr (fun i => i = k0 ∨ i = g0 ∨ i = bm0) w w') : RA w' m b1 b2 R := by
  obtain ⟨⟨c1, c2, kv, h1, hi⟩, ⟨x, h3, hx⟩, ⟨y, h4, hy⟩, h5⟩ := h
  exact ⟨⟨c1, c2, kv, hf.at h1 (apart3 hd hl h1 (by decide) (by decide)), hi.keep hf (fun b cur hb => apart3 hd hl hb (by decide) (by decide))⟩, ⟨x, hf.at h3 (apart3 hd hl h3 (by decide) (by decide)), hx⟩, ⟨y, hf.at h4 (apart3 hd hl h4 (by decide) (by decide)), hy⟩, h5⟩

/-- The program's log and disk turn. -/
theorem LJ.dl {L' : LSt} {S' : St} {bm' : Nat} (h : LJ W w g bm m b1 b2 k kr N S R L M) (hL : LogAt w' k g L') (hA : At w' g bm' S') (hb : bm' = bm ∨ w.heap.size ≤ bm') (hf : Fr (fun i => i = k ∨ i = g ∨ i = bm) w w') (hok : S'.Ok) (hn : S'.n = S.n) : LJ W w' g bm' m b1 b2 k kr N S' R L' M := by
  have hl := h.low
  have hs := h.dj.fr.size
  have hl2 := h.dj.low
  exact ⟨⟨hA, RA.beside3 h.dj.ra h.dj.at_ h.log hf, hok, h.dj.rok, ⟨hn.trans h.dj.n.1, h.dj.n.2⟩, h.dj.fr.trans hf (fun i hi e => by omega), ⟨hl2.1, by rcases hb with hb | hb <;> omega, hl2.2.2⟩⟩, hL, h.rlog.keep hf (apart3 h.dj.at_ h.log h.rlog (by decide) (by decide)), hl⟩
theorem LJ.d1 {S' : St} {bm' : Nat} (h : LJ W w g bm m b1 b2 k kr N S R L M) (hA : At w' g bm' S') (hb : bm' = bm ∨ w.heap.size ≤ bm') (hf : Fr (fun i => i = g ∨ i = bm) w w') (hok : S'.Ok) (hn : S'.n = S.n) : LJ W w' g bm' m b1 b2 k kr N S' R L M :=
  h.dl (h.log.keep hf (by have := h.log.ne h.dj.at_; omega)) hA hb (hf.mono (fun _ _ e => Or.inr e)) hok hn

theorem At.besideR4 {kr0 m0 b10 b20 : Nat} {R0 : St} {M0 : LSt} (hd : At w g bm S) (h : RA w m0 b10 b20 R0) (hl : RLogAt w kr0 m0 M0) (hf : Fr (fun i => i = kr0 ∨ i = m0 ∨ i = b10 ∨ i = b20) w w') : At w' g bm S := by
  obtain ⟨c, hc⟩ := at_cells hd
  obtain ⟨⟨x1, y1⟩, ⟨x2, y2⟩, ⟨x3, y3⟩⟩ := ra_blocks h
  refine hd.keep hf (apart4 h hl hc (by decide) (by decide) (by decide)) ?_ (fun b cur hb => apart4 h hl hb (by decide) (by decide) (by decide))
  rintro (e | e | e | e)
  · exact at_map hd hl e
  · exact at_map hd y1 e
  · exact at_map hd y2 e
  · exact at_map hd y3 e

/-- The document's log and disk turn. -/
theorem LJ.rl {M' : LSt} {R' : St} (h : LJ W w g bm m b1 b2 k kr N S R L M) (hT : RLTurn w kr m b1 b2 M' R' w') (hok : R'.Ok) (hn : R'.n = R.n) : ∃ b1' b2', LJ W w' g bm m b1' b2' k kr N S R' L M' := by
  obtain ⟨hl', ⟨b1', b2', hR, l1, l2⟩, hf⟩ := hT
  have hs := h.dj.fr.size
  have hl := h.dj.low
  have hlw := h.low
  exact ⟨b1', b2', ⟨At.besideR4 h.dj.at_ h.dj.ra h.rlog hf, hR, h.dj.ok, hok, ⟨h.dj.n.1, hn.trans h.dj.n.2⟩, h.dj.fr.trans hf (fun i hi e => by omega), ⟨hl.1, hl.2.1, hl.2.2.1, by rcases l1 with l1 | l1 <;> omega, by rcases l2 with l2 | l2 <;> omega⟩⟩,
    h.log.keep hf (apart4 h.dj.ra h.rlog h.log (by decide) (by decide) (by decide)), hl', hlw⟩
theorem LJ.r1 {R' : St} (h : LJ W w g bm m b1 b2 k kr N S R L M) (hT : RTurn w m b1 b2 R' w') (hok : R'.Ok) (hn : R'.n = R.n) : ∃ b1' b2', LJ W w' g bm m b1' b2' k kr N S R' L M :=
  h.rl (RLTurn.of h.rlog h.dj.ra hT) hok hn

/-- New logs. -/
theorem LJ.logs {L' M' : LSt} {k' kr' : Nat} (h : LJ W w g bm m b1 b2 k kr N S R L M) (hf : Fr (fun _ => False) w w') (hL : LogAt w' k' g L') (hM : RLogAt w' kr' m M') (h1 : w.heap.size ≤ k') (h2 : w.heap.size ≤ kr') : LJ W w' g bm m b1 b2 k' kr' N S R L' M' := by
  have hs := h.dj.fr.size
  exact ⟨h.dj.stay hf, hL, hM, by omega, by omega⟩

theorem At.beside3 {k0 g0 bm0 : Nat} {S0 : St} {L0 : LSt} (h : At w g bm S) (hd : At w g0 bm0 S0) (hl : LogAt w k0 g0 L0) (hf : Fr (fun i => i = k0 ∨ i = g0 ∨ i = bm0) w w') (h1 : g ≠ g0) (h2 : bm ≠ bm0) : At w' g bm S := by
  obtain ⟨c, hc⟩ := at_cells h
  obtain ⟨c0, hc0⟩ := at_cells hd
  refine h.keep hf ?_ ?_ (fun b cur hb => apart3 hd hl hb (by decide) (by decide))
  · rintro (e | e | e)
    · exact other_cells hc hl (by decide) e
    · exact h1 e
    · exact at_map hd hc e.symm
  · rintro (e | e | e)
    · exact at_map h hl e
    · exact at_map h hc0 e
    · exact h2 e

/-- Another log and its disk turn. -/
theorem LJ.other {k0 g0 bm0 : Nat} {S0 : St} {L0 : LSt} (h : LJ W w g bm m b1 b2 k kr N S R L M) (hd : At w g0 bm0 S0) (hl : LogAt w k0 g0 L0) (hf : Fr (fun i => i = k0 ∨ i = g0 ∨ i = bm0) w w') (h1 : g ≠ g0) (h2 : bm ≠ bm0) (h3 : k ≠ k0) (l0 : W.heap.size ≤ k0 ∧ W.heap.size ≤ g0 ∧ W.heap.size ≤ bm0) : LJ W w' g bm m b1 b2 k kr N S R L M := by
  have hkg := h.log.ne h.dj.at_
  obtain ⟨c0, hc0⟩ := at_cells hd
  refine ⟨⟨At.beside3 h.dj.at_ hd hl hf h1 h2, RA.beside3 h.dj.ra hd hl hf, h.dj.ok, h.dj.rok, h.dj.n, h.dj.fr.trans hf (fun i hi e => by omega), h.dj.low⟩, h.log.keep hf ?_, h.rlog.keep hf (apart3 hd hl h.rlog (by decide) (by decide)), h.low⟩
  rintro (e | e | e)
  · exact h3 e
  · exact other_cells h.log hc0 (by decide) e
  · exact at_map hd h.log e.symm

/-- Another disk turns. -/
theorem LJ.otherD {g0 bm0 : Nat} {S0 : St} (h : LJ W w g bm m b1 b2 k kr N S R L M) (hd : At w g0 bm0 S0) (hf : Fr (fun i => i = g0 ∨ i = bm0) w w') (h1 : g ≠ g0) (h2 : bm ≠ bm0) (l0 : W.heap.size ≤ g0 ∧ W.heap.size ≤ bm0) : LJ W w' g bm m b1 b2 k kr N S R L M :=
  ⟨h.dj.other hd hf h1 h2 l0, h.log.keep hf (cells_apart hd h.log (by decide)), h.rlog.keep hf (cells_apart hd h.rlog (by decide)), h.low⟩

theorem sync_lok {n : Nat} (hL : L.Ok n) (s : St) : (L.sync s).1.Ok n := by
  unfold LSt.sync
  split
  · exact hL
  · exact ⟨hL.c1, hL.area, hL.at_, hL.n1, hL.n2⟩
theorem lsync_ok (hs : S.Ok) : (L.sync S).2.1.Ok ∧ (L.sync S).2.1.n = S.n := by
  unfold LSt.sync
  split
  · exact ⟨hs, rfl⟩
  · exact sync_ok hs
end

end Go.Proofs.YthmnchemfigneaaGreat.D
