/-
  A disk, a log over it and a row of texts. No condition.
-/
import Derived.Test.YthmnchemfigneaaKP
import Derived.Test.YthmnchemfigneaaWArW
import Derived.Deep.RegionHeld3
import Derived.Deep.DeepCutAuto
import Derived.Deep.CutBlock
import Derived.Deep.CutRange
import Derived.BigQuiet
namespace Go.Proofs.Ythmnchemfigneaa.D
open Go.RowKit Go.Maps Go.Shelf
set_option linter.unusedVariables false
set_option linter.unusedSimpArgs false

theorem addr0 (b : Nat) : (⟨b, 0, none⟩ : Addr).add 0 = ⟨b, 0, none⟩ := by unfold Addr.add; split <;> simp_all

/-- The block of a row of texts. -/
theorem Texts.block {w : World} {B : Nat} {v : Value} {L : List (List UInt8)} (h : Texts w B v L) {b : Nat} (hb : v.ownBlock = some b) : B ≤ b ∧ ∃ c, w.heap[b]? = some (.cells c 9) := by
  have hh : w.ownsRow B 9 1 v L.length (strs' L) := h
  rcases hh.2 with ⟨rfl, h0⟩ | ⟨b', cap, cur, rfl, h1, h2, _⟩
  · simp [Value.ownBlock] at hb
  · simp only [Value.ownBlock, Option.some.injEq] at hb
    subst hb
    exact ⟨h1, cur, h2⟩

theorem Texts.keep {S : Nat → Prop} {w w' : World} {B : Nat} {v : Value} {L : List (List UInt8)} (h : Texts w B v L) (hf : Fr S w w') (hn : ∀ b, v.ownBlock = some b → ¬ S b) : Texts w' B v L := by
  have hh : w.ownsRow B 9 1 v L.length (strs' L) := h
  show w'.ownsRow B 9 1 v L.length (strs' L)
  refine ⟨hh.1, ?_⟩
  rcases hh.2 with h0 | ⟨b', cap, cur, rfl, h1, h2, h3⟩
  · exact Or.inl h0
  · exact Or.inr ⟨b', cap, cur, rfl, h1, hf.at h2 (hn b' rfl), h3⟩
theorem Texts.low {w : World} {B B' : Nat} {v : Value} {L : List (List UInt8)} (h : Texts w B v L) (hb : B' ≤ B) : Texts w B' v L := by
  have hh : w.ownsRow B 9 1 v L.length (strs' L) := h
  refine ⟨hh.1, ?_⟩
  rcases hh.2 with h0 | ⟨b', cap, cur, rfl, h1, h2, h3⟩
  · exact Or.inl h0
  · exact Or.inr ⟨b', cap, cur, rfl, by omega, h2, h3⟩

/-- A world with a disk, a log over it, a row of texts. -/
structure WI (W w : World) (g bm k : Nat) (S : St) (L : LSt) (v : Value) (rs : List (List UInt8)) : Prop where
  at_ : At w g bm S
  log : LogAt w k g L
  all : Texts w W.heap.size v rs
  fr : Fr (fun _ => False) W w
  low : W.heap.size ≤ g ∧ W.heap.size ≤ bm ∧ W.heap.size ≤ k

section
variable {W w w' : World} {g bm k : Nat} {S : St} {L : LSt} {v : Value} {rs : List (List UInt8)}

theorem WI.stay (h : WI W w g bm k S L v rs) (hf : Fr (fun _ => False) w w') : WI W w' g bm k S L v rs :=
  ⟨h.at_.stay hf, h.log.stay hf, h.all.stay hf, h.fr.trans hf (fun _ _ f => f), h.low⟩

theorem log_cells (h : LogAt w k g L) {b : Nat} {c : Array Value} {T : TypeId} (hb : w.heap[b]? = some (.cells c T)) (hT : T ≠ 82) : b ≠ k := by
  rintro rfl
  unfold LogAt at h
  rw [h] at hb
  injection hb with hb
  injection hb with _ e2
  exact hT e2.symm

/-- What no call of the log or of the disk writes. -/
theorem WI.apart (h : WI W w g bm k S L v rs) {b : Nat} {c : Array Value} {T : TypeId} (hb : w.heap[b]? = some (.cells c T)) (h1 : T ≠ 82) (h2 : T ≠ 80) : ¬ (b = k ∨ b = g ∨ b = bm) := by
  have e1 := log_cells h.log hb h1
  have e2 := cells_apart h.at_ hb h2
  omega

theorem WI.allApart (h : WI W w g bm k S L v rs) (b : Nat) (hb : v.ownBlock = some b) : ¬ (b = k ∨ b = g ∨ b = bm) := by
  obtain ⟨_, c, hc⟩ := h.all.block hb
  exact h.apart hc (by decide) (by decide)

/-- The log and the disk turn. -/
theorem WI.turn {L' : LSt} {S' : St} {bm' : Nat} (h : WI W w g bm k S L v rs) (hL : LogAt w' k g L') (hA : At w' g bm' S') (hb : bm' = bm ∨ w.heap.size ≤ bm') (hf : Fr (fun i => i = k ∨ i = g ∨ i = bm) w w') : WI W w' g bm' k S' L' v rs := by
  have hl := h.low
  have hs := h.fr.size
  exact ⟨hA, hL, h.all.keep hf h.allApart, h.fr.trans hf (fun i hi e => by omega), by omega, by rcases hb with hb | hb <;> omega, by omega⟩
/-- The disk turns. -/
theorem WI.dturn {S' : St} {bm' : Nat} (h : WI W w g bm k S L v rs) (hA : At w' g bm' S') (hb : bm' = bm ∨ w.heap.size ≤ bm') (hf : Fr (fun i => i = g ∨ i = bm) w w') : WI W w' g bm' k S' L v rs :=
  h.turn (h.log.keep hf (by have := h.log.ne h.at_; omega)) hA hb (hf.mono (fun _ _ e => Or.inr e))
/-- A new log. -/
theorem WI.newlog {L' : LSt} {k' : Nat} (h : WI W w g bm k S L v rs) (hL : LogAt w' k' g L') (hk : w.heap.size ≤ k') (hf : Fr (fun _ => False) w w') : WI W w' g bm k' S L' v rs := by
  have hl := h.low
  have hs := h.fr.size
  exact ⟨h.at_.stay hf, hL, h.all.stay hf, h.fr.trans hf (fun _ _ f => f), by omega, by omega, by omega⟩
/-- The row grows. -/
theorem WI.grow {v' : Value} {rs' : List (List UInt8)} (h : WI W w g bm k S L v rs) (ha : Texts w' W.heap.size v' rs') (hg : w.grownBy w' v.ownBlock) : WI W w' g bm k S L v' rs' := by
  have hf : Fr (fun i => v.ownBlock = some i) w w' := (Fr.refl _ w).grown hg (fun k hk _ => hk)
  have hap := h.allApart
  refine ⟨h.at_.keep hf (fun e => (hap _ e) (Or.inr (Or.inl rfl))) (fun e => (hap _ e) (Or.inr (Or.inr rfl))) (fun b cur hb e => ?_), h.log.keep hf (fun e => (hap _ e) (Or.inl rfl)), ha, h.fr.trans hf (fun i hi e => ?_), h.low⟩
  · obtain ⟨_, c, hc⟩ := h.all.block e
    rw [hc] at hb
    injection hb with hb
    injection hb with _ e2
    exact absurd e2 (by decide)
  · have := (h.all.block e).1
    omega
theorem WI.row {v' : Value} {rs' : List (List UInt8)} (h : WI W w g bm k S L v rs) (ha : Texts w W.heap.size v' rs') : WI W w g bm k S L v' rs' := ⟨h.at_, h.log, ha, h.fr, h.low⟩
/-- Other cells stay while the row grows. -/
theorem WI.growAt (h : WI W w g bm k S L v rs) (hg : w.grownBy w' v.ownBlock) {b : Nat} {c : Array Value} {T : TypeId} (hb : w.heap[b]? = some (.cells c T)) (hT : T ≠ 9) : w'.heap[b]? = some (.cells c T) := by
  have hf : Fr (fun i => v.ownBlock = some i) w w' := (Fr.refl _ w).grown hg (fun k hk _ => hk)
  refine hf.at hb (fun e => ?_)
  obtain ⟨_, c', hc⟩ := h.all.block e
  rw [hc] at hb
  injection hb with hb
  injection hb with _ e2
  exact hT e2.symm
end

/-- The first of a row's texts. -/
theorem TV.take {w : World} {p : Option Addr} {cap n : Nat} {L : List (List UInt8)} (h : TV w (.slice p L.length cap) L) (hn : n ≤ L.length) (hnil : L ≠ [] ∨ p = none ∨ ∃ b o, p = some ⟨b, o, none⟩) : ∀ c2, TV w (.slice p n c2) (L.take n) := by
  obtain ⟨p', cap', h1, h0, h2⟩ := h
  injection h1 with e1 _ _
  subst e1
  intro c2
  refine ⟨p, c2, by rw [List.length_take, Nat.min_eq_left hn], by rw [List.length_take]; omega, ?_⟩
  rcases h2 with h2 | ⟨b, o, rfl, h3⟩
  · left; rw [h2]; simp
  · right
    refine ⟨b, o, rfl, fun j hj => ?_⟩
    rw [List.length_take] at hj
    rw [h3 j (by omega)]
    simp [List.getD_eq_getElem?_getD, List.getElem?_take_of_lt (show j < n by omega)]

theorem Texts.form {w : World} {B : Nat} {p : Option Addr} {n cp : Nat} {L : List (List UInt8)} (h : Texts w B (.slice p n cp) L) : n = L.length ∧ n ≤ cp ∧ (p = none ∨ ∃ b, p = some ⟨b, 0, none⟩) := by
  have hh : w.ownsRow B 9 1 (.slice p n cp) L.length (strs' L) := h
  rcases hh.2 with ⟨h0, h1⟩ | ⟨b', cap, cur, h0, h1, h2, h3, _⟩
  · injection h0 with e1 e2 e3
    subst e1 e2 e3
    exact ⟨h1.symm, Nat.le_refl _, Or.inl rfl⟩
  · injection h0 with e1 e2 e3
    subst e1 e2 e3
    exact ⟨rfl, h3, Or.inr ⟨_, rfl⟩⟩

theorem slice_row {P : Program} (t e : TypeId) (ht : P.underlying t = some (.slice e)) (i : TypeInfo) (hi : P.info? e = some i) (p : Option Addr) (hp : p = none ∨ ∃ b, p = some ⟨b, 0, none⟩) (n cp h : Nat) (h1 : h ≤ cp) (w : World) :
    (Instr.slice t (.slice p n cp) none (some (.int .i64 (h : Int))) none).run P w = .ok (.slice p h cp) w := by
  have e2 : (p.map fun x => x.add 0) = p := by
    rcases hp with rfl | ⟨b, rfl⟩
    · rfl
    · simp only [Option.map_some, addr0]
  have h2 : (h : Int) ≤ cp := by omega
  have hsz : (sizeOf e).run P w = .ok i.size w := by
    have ht : (typeInfo e).run P w = .ok i w := by simp [typeInfo, hi]
    simp [sizeOf, go_sem, ht, Result.andThen]
  simp [Instr.slice, run_underlying ht, Instr.sliceBounds, run_sliceBound, h2, Result.andThen, hsz, e2]

end Go.Proofs.Ythmnchemfigneaa.D
