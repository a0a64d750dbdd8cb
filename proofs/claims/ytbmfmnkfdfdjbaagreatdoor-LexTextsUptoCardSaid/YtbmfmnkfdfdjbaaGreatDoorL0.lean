/-
  What a walk in this layer leans on: frames of worlds, cells, bytes as strings. No condition.
-/
import Derived.Below
import Derived.WalkKit
import Derived.WalkLawsBesides
import Derived.BigQuiet
import Derived.Test.YtbmfmnkfdfdjbaaGreatDoorProg
namespace Go.Proofs.YtbmfmnkfdfdjbaaGreatDoor.D
open Go.RowKit
set_option linter.unusedVariables false
set_option linter.unusedSimpArgs false

/-- w' is w with new blocks; of w's own blocks those of S alone may have turned. -/
structure Fr (S : Nat → Prop) (w w' : World) : Prop where
  os : w'.os = w.os
  tape : w'.tape = w.tape
  output : w'.output = w.output
  size : w.heap.size ≤ w'.heap.size
  block : ∀ k, k < w.heap.size → ¬ S k → w'.heap[k]? = w.heap[k]?

theorem Fr.refl (S : Nat → Prop) (w : World) : Fr S w w := ⟨rfl, rfl, rfl, Nat.le_refl _, fun _ _ _ => rfl⟩
theorem Fr.trans {S T : Nat → Prop} {a b c : World} (h : Fr S a b) (k : Fr T b c) (hT : ∀ i, i < a.heap.size → T i → S i) : Fr S a c :=
  ⟨k.os.trans h.os, k.tape.trans h.tape, k.output.trans h.output, Nat.le_trans h.size k.size, fun i hi hn => (k.block i (Nat.lt_of_lt_of_le hi h.size) (fun t => hn (hT i hi t))).trans (h.block i hi hn)⟩
theorem Fr.mono {S T : Nat → Prop} {a b : World} (h : Fr S a b) (hT : ∀ i, i < a.heap.size → S i → T i) : Fr T a b :=
  ⟨h.os, h.tape, h.output, h.size, fun i hi hn => h.block i hi (fun s => hn (hT i hi s))⟩
theorem Fr.below {w w' : World} (h : Below w.heap.size w w') (S : Nat → Prop) : Fr S w w' := ⟨h.os, h.tape, h.output, h.size, fun i hi _ => h.block i hi⟩
theorem Fr.alloc {S : Nat → Prop} {a w : World} (h : Fr S a w) (o : Obj) : Fr S a (w.alloc o) :=
  h.trans (T := fun _ => False) (Fr.below ((Below.refl _ w).alloc (Nat.le_refl _) o) _) (fun _ _ f => f.elim)
theorem Fr.drew {S : Nat → Prop} {a w : World} (h : Fr S a w) : Fr S a w.drew := ⟨h.os, h.tape, h.output, h.size, h.block⟩
theorem Fr.setCell {S : Nat → Prop} {a w : World} (h : Fr S a w) (p : Addr) (hp : p.block < a.heap.size → S p.block) (u : Value) : Fr S a (w.setCell p u) :=
  ⟨h.os, h.tape, h.output, by simpa [World.setCell] using h.size, fun i hi hn =>
    (Below.heap_setCell _ _ _ _ (fun e => hn (by subst e; exact hp hi))).trans (h.block i hi hn)⟩
theorem Fr.grown {S : Nat → Prop} {a w w' : World} {row : Option Nat} (h : Fr S a w) (hg : w.grownBy w' row) (hr : ∀ k, row = some k → k < a.heap.size → S k) : Fr S a w' :=
  ⟨hg.os.trans h.os, hg.tape.trans h.tape, hg.output.trans h.output, Nat.le_trans h.size hg.size, fun i hi hn =>
    (hg.block i (Nat.lt_of_lt_of_le hi h.size) (fun e => hn (hr i e.symm hi))).trans (h.block i hi hn)⟩
theorem Fr.toBelow {S : Nat → Prop} {w w' : World} (h : Fr S w w') {B : Nat} (hB : B ≤ w.heap.size) (hS : ∀ i, S i → B ≤ i) : Below B w w' :=
  ⟨h.os, h.tape, h.output, h.size, fun i hi => h.block i (Nat.lt_of_lt_of_le hi hB) (fun s => by have := hS i s; omega)⟩
theorem Fr.at {S : Nat → Prop} {w w' : World} (h : Fr S w w') {b : Nat} {o : Obj} (hb : w.heap[b]? = some o) (hn : ¬ S b) : w'.heap[b]? = some o :=
  (h.block b (Array.getElem?_eq_some_iff.1 hb).1 hn).trans hb

theorem lt_of_at {w : World} {b : Nat} {o : Obj} (hb : w.heap[b]? = some o) : b < w.heap.size := (Array.getElem?_eq_some_iff.1 hb).1

/-- A string of these bytes. -/
abbrev bs (l : List UInt8) : ByteArray := ⟨l.toArray⟩

section
variable {w : World} {g : Nat} {c : Array Value} {T : TypeId}
theorem cell_at (h : w.heap[g]? = some (.cells c T)) (i : Nat) : w.cell? ⟨g, i, none⟩ = c[i]? := by simp [World.cell?, h]
theorem frozen_at (h : w.heap[g]? = some (.cells c T)) (i : Nat) : w.frozen? ⟨g, i, none⟩ = false := by simp [World.frozen?, h]
theorem set_at (h : w.heap[g]? = some (.cells c T)) (i : Nat) (u : Value) : (w.setCell ⟨g, i, none⟩ u).heap[g]? = some (.cells (c.setIfInBounds i u) T) := by
  simp [World.setCell, Array.getElem?_modify, h]
end

theorem fr_set {S : Nat → Prop} (w : World) (g i : Nat) (u : Value) (hg : S g) : Fr S w (w.setCell ⟨g, i, none⟩ u) := (Fr.refl S w).setCell _ (fun _ => hg) _

theorem fr_set1 (w : World) (g i : Nat) (u : Value) : Fr (· = g) w (w.setCell ⟨g, i, none⟩ u) := fr_set w g i u rfl
theorem hid {p : Prop} (h : p) : Hid p := h
theorem fr_no {S : Nat → Prop} {w w' : World} (h : Fr (fun _ => False) w w') : Fr S w w' := h.mono (fun _ _ f => f.elim)

theorem cells_stay2 {w w' : World} (hf : Fr (fun _ => False) w w') {a : Addr} {v : Value} (h : w.cell? a = some v) : w'.cell? a = some v := by
  have hl := World.block_lt_of_cell? w a h
  rw [World.cell?_of_block (w := w) (hf.block _ hl (fun f => f))]
  exact h

theorem below_fr {B : Nat} {w w' : World} (hw : Below B w w') (hB : w.heap.size ≤ B) : Fr (fun _ => False) w w' := ⟨hw.os, hw.tape, hw.output, hw.size, fun i hi _ => hw.block i (Nat.lt_of_lt_of_le hi hB)⟩

theorem fr_drewN {w : World} {n : Nat} : Fr (fun _ => False) w (w.drewN n) := ⟨rfl, rfl, rfl, Nat.le_refl _, fun _ _ _ => rfl⟩
theorem fr_dn {S : Nat → Prop} {w w' : World} {n : Nat} (h : Fr S w w') : Fr S w (w'.drewN n) := h.trans fr_drewN (fun _ _ f => f.elim)

theorem at_bs (L : List UInt8) (i : Nat) (h : i < (bs L).size) : (bs L)[i]'h = L.getD i 0 := by
  have hz : (bs L).size = L.length := by simp [bs, ByteArray.size]
  have h' : i < L.length := by omega
  simp [bs, ByteArray.getElem_eq_getElem_data, List.getD_eq_getElem?_getD, h']

theorem slice_str {P : Program} (t : TypeId) (ht : P.underlying t = some .string) (w : World) (l : List UInt8) (a b : Int) (h0 : 0 ≤ a) (h1 : a ≤ b) (h2 : b ≤ l.length) :
    (Instr.slice t (.string (bs l)) (some (.int .i64 a)) (some (.int .i64 b)) none).run P w = .ok (.string (bs ((l.drop a.toNat).take (b.toNat - a.toNat)))) w := by
  have hz : (bs l).size = l.length := by simp [bs, ByteArray.size]
  have eb : (b.toNat : Int) = b := Int.toNat_of_nonneg (by omega)
  have hx : (bs l).extract a.toNat b.toNat = bs ((l.drop a.toNat).take (b.toNat - a.toNat)) := by
    apply ByteArray.ext
    simp [bs, ByteArray.data_extract]
  simp [Instr.slice, run_underlying ht, Instr.sliceBounds, run_sliceBound, hz, h1, h2, eb, (by omega : 0 ≤ a), (by omega : 0 ≤ b), Result.andThen]
  exact hx

theorem slice_from {P : Program} (t : TypeId) (ht : P.underlying t = some .string) (w : World) (l : List UInt8) (b : Int) (h1 : 0 ≤ b) (h2 : b ≤ l.length) :
    (Instr.slice t (.string (bs l)) (some (.int .i64 b)) none none).run P w = .ok (.string (bs (l.drop b.toNat))) w := by
  have hz : (bs l).size = l.length := by simp [bs, ByteArray.size]
  have eb : (b.toNat : Int) = b := Int.toNat_of_nonneg (by omega)
  have hx : (bs l).extract b.toNat l.length = bs (l.drop b.toNat) := by
    apply ByteArray.ext
    simp [bs, ByteArray.data_extract]
    rw [List.take_of_length_le (by rw [List.length_drop]; omega)]
  simp [Instr.slice, run_underlying ht, Instr.sliceBounds, run_sliceBound, hz, h1, h2, eb, Result.andThen]
  exact hx

theorem addBs (l m : List UInt8) : (bs l) ++ (bs m) = bs (l ++ m) := by
  apply ByteArray.ext
  simp [bs]

end Go.Proofs.YtbmfmnkfdfdjbaaGreatDoor.D
