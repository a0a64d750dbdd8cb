/-
  What a disk is in memory: its block of five cells, its map, its kept numbers; what stays where other blocks are written.
-/
import Derived.Below
import Derived.WalkKit
import Derived.WalkLawsBesides
import Derived.BigQuiet
import Derived.Maps.OwnSet
import Derived.Test.YtjkhcfdflcndkaaProg
namespace Go.Proofs.Ytjkhcfdflcndkaa.D
open Go.RowKit Go.Maps
set_option linter.unusedVariables false
set_option linter.unusedSimpArgs false

/-- w' is w with new blocks; of w's own blocks those of S alone may have turned. -/
structure Fr (S : Nat → Prop) (w w' : World) : Prop where
  os : w'.os = w.os
  tape : w'.tape = w.tape
  output : w'.output = w.output
  size : w.heap.size ≤ w'.heap.size
  block : ∀ k, k < w.heap.size → ¬ S k → w'.heap[k]? = w.heap[k]?

theorem Fr.refl (S : Nat → Prop) (w : World) : Fr S w w := ⟨rfl, rfl, rfl, Nat.le_refl _, fun _ _ _ => rfl⟩
theorem Fr.trans {S T : Nat → Prop} {a b c : World} (h : Fr S a b) (k : Fr T b c) (hT : ∀ i, i < a.heap.size → T i → S i) : Fr S a c :=
  ⟨k.os.trans h.os, k.tape.trans h.tape, k.output.trans h.output, Nat.le_trans h.size k.size, fun i hi hn => (k.block i (Nat.lt_of_lt_of_le hi h.size) (fun t => hn (hT i hi t))).trans (h.block i hi hn)⟩
theorem Fr.mono {S T : Nat → Prop} {a b : World} (h : Fr S a b) (hT : ∀ i, i < a.heap.size → S i → T i) : Fr T a b :=
  ⟨h.os, h.tape, h.output, h.size, fun i hi hn => h.block i hi (fun s => hn (hT i hi s))⟩
theorem Fr.below {w w' : World} (h : Below w.heap.size w w') (S : Nat → Prop) : Fr S w w' := ⟨h.os, h.tape, h.output, h.size, fun i hi _ => h.block i hi⟩
theorem Fr.alloc {S : Nat → Prop} {a w : World} (h : Fr S a w) (o : Obj) : Fr S a (w.alloc o) :=
  h.trans (T := fun _ => False) (Fr.below ((Below.refl _ w).alloc (Nat.le_refl _) o) _) (fun _ _ f => f.elim)
theorem Fr.drew {S : Nat → Prop} {a w : World} (h : Fr S a w) : Fr S a w.drew := ⟨h.os, h.tape, h.output, h.size, h.block⟩
theorem Fr.setCell {S : Nat → Prop} {a w : World} (h : Fr S a w) (p : Addr) (hp : p.block < a.heap.size → S p.block) (u : Value) : Fr S a (w.setCell p u) :=
  ⟨h.os, h.tape, h.output, by simpa [World.setCell] using h.size, fun i hi hn =>
    (Below.heap_setCell _ _ _ _ (fun e => hn (by subst e; exact hp hi))).trans (h.block i hi hn)⟩
theorem Fr.grown {S : Nat → Prop} {a w w' : World} {row : Option Nat} (h : Fr S a w) (hg : w.grownBy w' row) (hr : ∀ k, row = some k → k < a.heap.size → S k) : Fr S a w' :=
  ⟨hg.os.trans h.os, hg.tape.trans h.tape, hg.output.trans h.output, Nat.le_trans h.size hg.size, fun i hi hn =>
    (hg.block i (Nat.lt_of_lt_of_le hi h.size) (fun e => hn (hr i e.symm hi))).trans (h.block i hi hn)⟩
theorem Fr.toBelow {S : Nat → Prop} {w w' : World} (h : Fr S w w') {B : Nat} (hB : B ≤ w.heap.size) (hS : ∀ i, S i → B ≤ i) : Below B w w' :=
  ⟨h.os, h.tape, h.output, h.size, fun i hi => h.block i (Nat.lt_of_lt_of_le hi hB) (fun s => by have := hS i s; omega)⟩
theorem Fr.at {S : Nat → Prop} {w w' : World} (h : Fr S w w') {b : Nat} {o : Obj} (hb : w.heap[b]? = some o) (hn : ¬ S b) : w'.heap[b]? = some o :=
  (h.block b (Array.getElem?_eq_some_iff.1 hb).1 hn).trans hb

theorem lt_of_at {w : World} {b : Nat} {o : Obj} (hb : w.heap[b]? = some o) : b < w.heap.size := (Array.getElem?_eq_some_iff.1 hb).1

theorem owns_keep {P : Program} {k : TypeId} {R : Value → Option (DataW Unit × List MemPlace)} {b n : Nat} {D : DataW Unit} {S : Nat → Prop} {w w' : World}
    (h : w.ownsMap P k R b n D) (hf : Fr S w w') (hn : ¬ S b) : w'.ownsMap P k R b n D := by
  obtain ⟨es, clock, hb, F, hs, hD⟩ := h
  exact ⟨es, clock, hf.at hb hn, F, hs, hD⟩

/-- A string of these bytes. -/
abbrev bs (l : List UInt8) : ByteArray := ⟨l.toArray⟩

/-- A slice of ints that reads as ks: nil, or a row. -/
def IntsAt (w : World) (v : Value) (ks : List Int) : Prop :=
  ∃ a cap, v = .slice a ks.length cap ∧ ks.length ≤ 9223372036854775807 ∧ (ks = [] ∨
    ∃ b o cur, a = some ⟨b, o, none⟩ ∧ w.heap[b]? = some (.cells cur 3) ∧ ∀ j, j < ks.length → cur[o + j]? = some (.int .i64 (ks.getD j 0))) ∧ ∀ x, a = some x → x.spot = none

theorem IntsAt.keep {S : Nat → Prop} {w w' : World} {v : Value} {ks : List Int} (h : IntsAt w v ks) (hf : Fr S w w') (hn : ∀ b cur, w.heap[b]? = some (.cells cur 3) → ¬ S b) : IntsAt w' v ks := by
  obtain ⟨a, cap, h1, h0, h2, h4⟩ := h
  rcases h2 with h2 | ⟨b, o, cur, rfl, hb, h3⟩
  · exact ⟨a, cap, h1, h0, Or.inl h2, h4⟩
  · exact ⟨_, cap, h1, h0, Or.inr ⟨b, o, cur, rfl, hf.at hb (hn b cur hb), h3⟩, h4⟩

/-- A slice of ints that reads as ks, by its cells. -/
def IntsV (w : World) (v : Value) (ks : List Int) : Prop :=
  ∃ a cap, v = .slice a ks.length cap ∧ ks.length ≤ 9223372036854775807 ∧ (ks = [] ∨
    ∃ b o, a = some ⟨b, o, none⟩ ∧ ∀ j, j < ks.length → w.cell? ⟨b, o + j, none⟩ = some (.int .i64 (ks.getD j 0)))

theorem IntsAt.toV {w : World} {v : Value} {ks : List Int} (h : IntsAt w v ks) : IntsV w v ks := by
  obtain ⟨a, cap, h1, h0, h2, _⟩ := h
  rcases h2 with h2 | ⟨b, o, cur, rfl, hb, h3⟩
  · exact ⟨a, cap, h1, h0, Or.inl h2⟩
  · exact ⟨_, cap, h1, h0, Or.inr ⟨b, o, rfl, fun j hj => by simpa [World.cell?, hb] using h3 j hj⟩⟩

theorem IntsV.stay {w w' : World} {v : Value} {ks : List Int} (h : IntsV w v ks) (hf : Fr (fun _ => False) w w') : IntsV w' v ks := by
  obtain ⟨a, cap, h1, h0, h2⟩ := h
  rcases h2 with h2 | ⟨b, o, rfl, h3⟩
  · exact ⟨a, cap, h1, h0, Or.inl h2⟩
  · refine ⟨_, cap, h1, h0, Or.inr ⟨b, o, rfl, fun j hj => ?_⟩⟩
    have h4 := h3 j hj
    have hl := World.block_lt_of_cell? w _ h4
    rw [World.cell?_of_block (w := w) (hf.block _ hl (fun f => f))]
    exact h4

/-- A disk's state. -/
structure St where
  safe : List UInt8
  un : Nat → Option (List UInt8)
  armed : Nat
  kept : List Int
  dead : Bool

def St.n (s : St) : Nat := s.safe.length / 64

structure St.Ok (s : St) : Prop where
  safe : s.safe.length = 64 * s.n
  n1 : 0 < s.n
  n2 : s.n ≤ 4096
  un : ∀ i l, s.un i = some l → i < s.n ∧ l.length = 64
  armed : s.armed ≤ 9223372036854775807

def un0 (l : Option (List UInt8)) (z : DataW Unit) : DataW Unit := match l with | some l => .lit (.string l) | none => z

/-- The map's datum says what is unsafe. -/
structure Says (D : DataW Unit) (un : Nat → Option (List UInt8)) : Prop where
  has : ∀ i : Nat, Maps.has D (.int .i64 i) = (un i).isSome
  val : ∀ (i : Nat) z, D.atKey (.int .i64 i) z = un0 (un i) z

def cellsOf (s : St) (bm : Nat) (kv : Value) : Array Value := #[.string (bs s.safe), .map (some bm), .int .i64 s.armed, kv, .bool s.dead]

/-- Block g is a disk in state s: its map is block bm. -/
structure At (w : World) (g bm : Nat) (s : St) : Prop where
  kv : ∃ kv, w.heap[g]? = some (.cells (cellsOf s bm kv) 65) ∧ IntsAt w kv s.kept
  map : ∃ m D, w.ownsMap Try.prog 3 (plainElem (H := Unit) Try.prog 9) bm m D ∧ Says D s.un ∧ ∀ k, Maps.has D k = true → ∃ i : Nat, k = .int .i64 i

section
variable {w : World} {g : Nat} {c : Array Value} {T : TypeId}
theorem cell_at (h : w.heap[g]? = some (.cells c T)) (i : Nat) : w.cell? ⟨g, i, none⟩ = c[i]? := by simp [World.cell?, h]
theorem frozen_at (h : w.heap[g]? = some (.cells c T)) (i : Nat) : w.frozen? ⟨g, i, none⟩ = false := by simp [World.frozen?, h]
theorem set_at (h : w.heap[g]? = some (.cells c T)) (i : Nat) (u : Value) : (w.setCell ⟨g, i, none⟩ u).heap[g]? = some (.cells (c.setIfInBounds i u) T) := by
  simp [World.setCell, Array.getElem?_modify, h]
end

theorem fr_set {S : Nat → Prop} (w : World) (g i : Nat) (u : Value) (hg : S g) : Fr S w (w.setCell ⟨g, i, none⟩ u) := (Fr.refl S w).setCell _ (fun _ => hg) _

/-- Block g is kept, its five cells known. -/
theorem At.ne {w : World} {g bm : Nat} {s : St} (h : At w g bm s) : g ≠ bm := by
  obtain ⟨⟨kv, h1, _⟩, m, D, h2, _⟩ := h
  obtain ⟨es, clock, hb, _⟩ := h2
  rintro rfl
  rw [h1] at hb
  cases hb

theorem At.keep {S : Nat → Prop} {w w' : World} {g bm : Nat} {s : St} (h : At w g bm s) (hf : Fr S w w') (h1 : ¬ S g) (h2 : ¬ S bm) (h3 : ∀ b cur, w.heap[b]? = some (.cells cur 3) → ¬ S b) : At w' g bm s := by
  obtain ⟨⟨kv, a1, a2⟩, m, D, a3, a4⟩ := h
  exact ⟨⟨kv, hf.at a1 h1, a2.keep hf h3⟩, m, D, owns_keep a3 hf h2, a4⟩

/-- The numbers of the unsafe sectors. -/
def St.unl (s : St) : List Nat := (List.range s.n).filter (fun i => (s.un i).isSome)
/-- b with l from the k-th sector on. -/
def putAt (b : List UInt8) (k : Nat) (l : List UInt8) : List UInt8 := b.take (64 * k) ++ l ++ b.drop (64 * k + l.length)
def leftGo (c : Nat → Bool) (un : Nat → Option (List UInt8)) : Nat → List Nat → List UInt8 → List UInt8
  | _, [], b => b
  | i, k :: L, b => leftGo c un (i + 1) L (if c i then putAt b k ((un k).getD []) else b)
def St.left (s : St) (c : Nat → Bool) : List UInt8 := leftGo c s.un 0 s.unl s.safe
def comes (ks : List Int) (i : Nat) : Bool := decide (i < ks.length) && decide (0 < ks.getD i 0)
def St.after (s : St) (ks : List Int) : List UInt8 := s.left (comes ks)
def St.image (s : St) : List UInt8 := s.left (fun _ => true)
def St.becomes (s : St) (l : List UInt8) : St := { s with safe := l, un := fun _ => none }
def St.dies (s : St) (ks : List Int) : St := { s.becomes (s.after ks) with armed := 0, dead := true }
def St.step (s : St) : St × Bool := if s.armed = 0 then (s, false) else ({ s with armed := s.armed - 1 }, s.armed == 1)

theorem At.cellsSet {w : World} {g bm : Nat} {s s' : St} (h : At w g bm s) (i : Nat) (u : Value) (he : ∀ kv, (cellsOf s bm kv).setIfInBounds i u = cellsOf s' bm kv) (hk : s'.kept = s.kept) (hu : s'.un = s.un) : At (w.setCell ⟨g, i, none⟩ u) g bm s' := by
  have hne := h.ne
  obtain ⟨⟨kv, h1, h2⟩, m, D, h3, h4⟩ := h
  have hf : Fr (· = g) w (w.setCell ⟨g, i, none⟩ u) := fr_set w g i u rfl
  refine ⟨⟨kv, by rw [set_at h1, he], ?_⟩, m, D, owns_keep h3 hf (fun e => hne e.symm), hu ▸ h4⟩
  rw [hk]
  refine h2.keep hf ?_
  rintro b cur hb rfl
  rw [h1] at hb
  cases hb

end Go.Proofs.Ytjkhcfdflcndkaa.D
