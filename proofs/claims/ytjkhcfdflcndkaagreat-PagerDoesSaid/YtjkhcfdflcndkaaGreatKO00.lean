/-
  What a disk is in memory: its block of five cells, its map, its kept numbers; what stays where other blocks are written.
-/
import Derived.Below
import Derived.WalkKit
import Derived.WalkLawsBesides
import Derived.BigQuiet
import Derived.Maps.OwnSet
import Derived.Test.YtjkhcfdflcndkaaGreatProg
namespace Go.Proofs.YtjkhcfdflcndkaaGreat.D
open Go.RowKit Go.Maps
set_option linter.unusedVariables false
set_option linter.unusedSimpArgs false

/-- w' is w with new blocks; of w's own blocks those of S alone may have turned. -/
structure Fr (S : Nat → Prop) (w w' : World) : Prop where
  os : w'.os = w.os
  tape : w'.tape = w.tape
  output : w'.output = w.output
  size : w.heap.size ≤ w'.heap.size
  block : ∀ k, k < w.heap.size → ¬ S k → w'.heap[k]? = w.heap[k]?

theorem Fr.refl (S : Nat → Prop) (w : World) : Fr S w w := ⟨rfl, rfl, rfl, Nat.le_refl _, fun _ _ _ => rfl⟩
theorem Fr.trans {S T : Nat → Prop} {a b c : World} (h : Fr S a b) (k : Fr T b c) (hT : ∀ i, i < a.heap.size → T i → S i) : Fr S a c :=
  ⟨k.os.trans h.os, k.tape.trans h.tape, k.output.trans h.output, Nat.le_trans h.size k.size, fun i hi hn => (k.block i (Nat.lt_of_lt_of_le hi h.size) (fun t => hn (hT i hi t))).trans (h.block i hi hn)⟩
theorem Fr.mono {S T : Nat → Prop} {a b : World} (h : Fr S a b) (hT : ∀ i, i < a.heap.size → S i → T i) : Fr T a b :=
  ⟨h.os, h.tape, h.output, h.size, fun i hi hn => h.block i hi (fun s => hn (hT i hi s))⟩
theorem Fr.below {w w' : World} (h : Below w.heap.size w w') (S : Nat → Prop) : Fr S w w' := ⟨h.os, h.tape, h.output, h.size, fun i hi _ => h.block i hi⟩
theorem Fr.alloc {S : Nat → Prop} {a w : World} (h : Fr S a w) (o : Obj) : Fr S a (w.alloc o) :=
  h.trans (T := fun _ => False) (Fr.below ((Below.refl _ w).alloc (Nat.le_refl _) o) _) (fun _ _ f => f.elim)
theorem Fr.drew {S : Nat → Prop} {a w : World} (h : Fr S a w) : Fr S a w.drew := ⟨h.os, h.tape, h.output, h.size, h.block⟩
theorem Fr.setCell {S : Nat → Prop} {a w : World} (h : Fr S a w) (p : Addr) (hp : p.block < a.heap.size → S p.block) (u : Value) : Fr S a (w.setCell p u) :=
  ⟨h.os, h.tape, h.output, by simpa [World.setCell] using h.size, fun i hi hn =>
    (Below.heap_setCell _ _ _ _ (fun e => hn (by subst e; exact hp hi))).trans (h.block i hi hn)⟩
theorem Fr.grown {S : Nat → Prop} {a w w' : World} {row : Option Nat} (h : Fr S a w) (hg : w.grownBy w' row) (hr : ∀ k, row = some k → k < a.heap.size → S k) : Fr S a w' :=
  ⟨hg.os.trans h.os, hg.tape.trans h.tape, hg.output.trans h.output, Nat.le_trans h.size hg.size, fun i hi hn =>
    (hg.block i (Nat.lt_of_lt_of_le hi h.size) (fun e => hn (hr i e.symm hi))).trans (h.block i hi hn)⟩
theorem Fr.toBelow {S : Nat → Prop} {w w' : World} (h : Fr S w w') {B : Nat} (hB : B ≤ w.heap.size) (hS : ∀ i, S i → B ≤ i) : Below B w w' :=
  ⟨h.os, h.tape, h.output, h.size, fun i hi => h.block i (Nat.lt_of_lt_of_le hi hB) (fun s => by have := hS i s; omega)⟩
theorem Fr.at {S : Nat → Prop} {w w' : World} (h : Fr S w w') {b : Nat} {o : Obj} (hb : w.heap[b]? = some o) (hn : ¬ S b) : w'.heap[b]? = some o :=
  (h.block b (Array.getElem?_eq_some_iff.1 hb).1 hn).trans hb

theorem lt_of_at {w : World} {b : Nat} {o : Obj} (hb : w.heap[b]? = some o) : b < w.heap.size := (Array.getElem?_eq_some_iff.1 hb).1

theorem owns_keep {P : Program} {k : TypeId} {R : Value → Option (DataW Unit × List MemPlace)} {b n : Nat} {D : DataW Unit} {S : Nat → Prop} {w w' : World}
    (h : w.ownsMap P k R b n D) (hf : Fr S w w') (hn : ¬ S b) : w'.ownsMap P k R b n D := by
  obtain ⟨es, clock, hb, F, hs, hD⟩ := h
  exact ⟨es, clock, hf.at hb hn, F, hs, hD⟩

/-- A string of these bytes. -/
abbrev bs (l : List UInt8) : ByteArray := ⟨l.toArray⟩

/-- A slice of ints that reads as ks: nil, or a row. -/
def IntsAt (w : World) (v : Value) (ks : List Int) : Prop :=
  ∃ a cap, v = .slice a ks.length cap ∧ ks.length ≤ 9223372036854775807 ∧ (ks = [] ∨
    ∃ b o cur, a = some ⟨b, o, none⟩ ∧ w.heap[b]? = some (.cells cur 3) ∧ ∀ j, j < ks.length → cur[o + j]? = some (.int .i64 (ks.getD j 0))) ∧ ∀ x, a = some x → x.spot = none

theorem IntsAt.keep {S : Nat → Prop} {w w' : World} {v : Value} {ks : List Int} (h : IntsAt w v ks) (hf : Fr S w w') (hn : ∀ b cur, w.heap[b]? = some (.cells cur 3) → ¬ S b) : IntsAt w' v ks := by
  obtain ⟨a, cap, h1, h0, h2, h4⟩ := h
  rcases h2 with h2 | ⟨b, o, cur, rfl, hb, h3⟩
  · exact ⟨a, cap, h1, h0, Or.inl h2, h4⟩
  · exact ⟨_, cap, h1, h0, Or.inr ⟨b, o, cur, rfl, hf.at hb (hn b cur hb), h3⟩, h4⟩

/-- A slice of ints that reads as ks, by its cells. -/
def IntsV (w : World) (v : Value) (ks : List Int) : Prop :=
  ∃ a cap, v = .slice a ks.length cap ∧ ks.length ≤ 9223372036854775807 ∧ (ks = [] ∨
    ∃ b o, a = some ⟨b, o, none⟩ ∧ ∀ j, j < ks.length → w.cell? ⟨b, o + j, none⟩ = some (.int .i64 (ks.getD j 0)))

theorem IntsAt.toV {w : World} {v : Value} {ks : List Int} (h : IntsAt w v ks) : IntsV w v ks := by
  obtain ⟨a, cap, h1, h0, h2, _⟩ := h
  rcases h2 with h2 | ⟨b, o, cur, rfl, hb, h3⟩
  · exact ⟨a, cap, h1, h0, Or.inl h2⟩
  · exact ⟨_, cap, h1, h0, Or.inr ⟨b, o, rfl, fun j hj => by simpa [World.cell?, hb] using h3 j hj⟩⟩

theorem IntsV.stay {w w' : World} {v : Value} {ks : List Int} (h : IntsV w v ks) (hf : Fr (fun _ => False) w w') : IntsV w' v ks := by
  obtain ⟨a, cap, h1, h0, h2⟩ := h
  rcases h2 with h2 | ⟨b, o, rfl, h3⟩
  · exact ⟨a, cap, h1, h0, Or.inl h2⟩
  · refine ⟨_, cap, h1, h0, Or.inr ⟨b, o, rfl, fun j hj => ?_⟩⟩
    have h4 := h3 j hj
    have hl := World.block_lt_of_cell? w _ h4
    rw [World.cell?_of_block (w := w) (hf.block _ hl (fun f => f))]
    exact h4

/-- A disk's state. -/
structure St where
  safe : List UInt8
  un : Nat → Option (List UInt8)
  armed : Nat
  kept : List Int
  dead : Bool

def St.n (s : St) : Nat := s.safe.length / 64

structure St.Ok (s : St) : Prop where
  safe : s.safe.length = 64 * s.n
  n1 : 0 < s.n
  n2 : s.n ≤ 4096
  un : ∀ i l, s.un i = some l → i < s.n ∧ l.length = 64
  armed : s.armed ≤ 9223372036854775807

def un0 (l : Option (List UInt8)) (z : DataW Unit) : DataW Unit := match l with | some l => .lit (.string l) | none => z

/-- The map's datum says what is unsafe. -/
structure Says (D : DataW Unit) (un : Nat → Option (List UInt8)) : Prop where
  has : ∀ i : Nat, Maps.has D (.int .i64 i) = (un i).isSome
  val : ∀ (i : Nat) z, D.atKey (.int .i64 i) z = un0 (un i) z

def cellsOf (s : St) (bm : Nat) (kv : Value) : Array Value := #[.string (bs s.safe), .map (some bm), .int .i64 s.armed, kv, .bool s.dead]

/-- Block g is a disk in state s: its map is block bm. -/
structure At (w : World) (g bm : Nat) (s : St) : Prop where
  kv : ∃ kv, w.heap[g]? = some (.cells (cellsOf s bm kv) 92) ∧ IntsAt w kv s.kept
  map : ∃ m D, w.ownsMap Tryz.prog 3 (plainElem (H := Unit) Tryz.prog 9) bm m D ∧ Says D s.un ∧ ∀ k, Maps.has D k = true → ∃ i : Nat, k = .int .i64 i

section
variable {w : World} {g : Nat} {c : Array Value} {T : TypeId}
theorem cell_at (h : w.heap[g]? = some (.cells c T)) (i : Nat) : w.cell? ⟨g, i, none⟩ = c[i]? := by simp [World.cell?, h]
theorem frozen_at (h : w.heap[g]? = some (.cells c T)) (i : Nat) : w.frozen? ⟨g, i, none⟩ = false := by simp [World.frozen?, h]
theorem set_at (h : w.heap[g]? = some (.cells c T)) (i : Nat) (u : Value) : (w.setCell ⟨g, i, none⟩ u).heap[g]? = some (.cells (c.setIfInBounds i u) T) := by
  simp [World.setCell, Array.getElem?_modify, h]
end

theorem fr_set {S : Nat → Prop} (w : World) (g i : Nat) (u : Value) (hg : S g) : Fr S w (w.setCell ⟨g, i, none⟩ u) := (Fr.refl S w).setCell _ (fun _ => hg) _

/-- Block g is kept, its five cells known. -/
theorem At.ne {w : World} {g bm : Nat} {s : St} (h : At w g bm s) : g ≠ bm := by
  obtain ⟨⟨kv, h1, _⟩, m, D, h2, _⟩ := h
  obtain ⟨es, clock, hb, _⟩ := h2
  rintro rfl
  rw [h1] at hb
  cases hb

theorem At.keep {S : Nat → Prop} {w w' : World} {g bm : Nat} {s : St} (h : At w g bm s) (hf : Fr S w w') (h1 : ¬ S g) (h2 : ¬ S bm) (h3 : ∀ b cur, w.heap[b]? = some (.cells cur 3) → ¬ S b) : At w' g bm s := by
  obtain ⟨⟨kv, a1, a2⟩, m, D, a3, a4⟩ := h
  exact ⟨⟨kv, hf.at a1 h1, a2.keep hf h3⟩, m, D, owns_keep a3 hf h2, a4⟩

/-- The numbers of the unsafe sectors. -/
def St.unl (s : St) : List Nat := (List.range s.n).filter (fun i => (s.un i).isSome)
/-- b with l from the k-th sector on. -/
def putAt (b : List UInt8) (k : Nat) (l : List UInt8) : List UInt8 := b.take (64 * k) ++ l ++ b.drop (64 * k + l.length)
def leftGo (c : Nat → Bool) (un : Nat → Option (List UInt8)) : Nat → List Nat → List UInt8 → List UInt8
  | _, [], b => b
  | i, k :: L, b => leftGo c un (i + 1) L (if c i then putAt b k ((un k).getD []) else b)
def St.left (s : St) (c : Nat → Bool) : List UInt8 := leftGo c s.un 0 s.unl s.safe
def comes (ks : List Int) (i : Nat) : Bool := decide (i < ks.length) && decide (0 < ks.getD i 0)
def St.after (s : St) (ks : List Int) : List UInt8 := s.left (comes ks)
def St.image (s : St) : List UInt8 := s.left (fun _ => true)
def St.becomes (s : St) (l : List UInt8) : St := { s with safe := l, un := fun _ => none }
def St.dies (s : St) (ks : List Int) : St := { s.becomes (s.after ks) with armed := 0, dead := true }
def St.step (s : St) : St × Bool := if s.armed = 0 then (s, false) else ({ s with armed := s.armed - 1 }, s.armed == 1)

theorem At.cellsSet {w : World} {g bm : Nat} {s s' : St} (h : At w g bm s) (i : Nat) (u : Value) (he : ∀ kv, (cellsOf s bm kv).setIfInBounds i u = cellsOf s' bm kv) (hk : s'.kept = s.kept) (hu : s'.un = s.un) : At (w.setCell ⟨g, i, none⟩ u) g bm s' := by
  have hne := h.ne
  obtain ⟨⟨kv, h1, h2⟩, m, D, h3, h4⟩ := h
  have hf : Fr (· = g) w (w.setCell ⟨g, i, none⟩ u) := fr_set w g i u rfl
  refine ⟨⟨kv, by rw [set_at h1, he], ?_⟩, m, D, owns_keep h3 hf (fun e => hne e.symm), hu ▸ h4⟩
  rw [hk]
  refine h2.keep hf ?_
  rintro b cur hb rfl
  rw [h1] at hb
  cases hb

end Go.Proofs.YtjkhcfdflcndkaaGreat.D

/-
  The disk's calls, in plain words: what a state becomes; a state stays one.
-/
namespace Go.Proofs.YtjkhcfdflcndkaaGreat.D
set_option linter.unusedVariables false
set_option linter.unusedSimpArgs false

theorem putAt_length {b l : List UInt8} {k : Nat} (h : 64 * k + l.length ≤ b.length) : (putAt b k l).length = b.length := by
  simp only [putAt, List.length_append, List.length_take, List.length_drop]; omega

theorem leftGo_length (c : Nat → Bool) (un : Nat → Option (List UInt8)) : ∀ (L : List Nat) (i : Nat) (b : List UInt8), (∀ k ∈ L, ∃ l, un k = some l ∧ 64 * k + l.length ≤ b.length) → (leftGo c un i L b).length = b.length
  | [], _, _, _ => rfl
  | k :: L, i, b, h => by
    obtain ⟨l, hl, h2⟩ := h k (by simp)
    rw [leftGo, hl, Option.getD_some]
    cases c i
    · exact leftGo_length c un L (i + 1) b (fun k hk => h k (by simp [hk]))
    · simp only [if_true]
      rw [leftGo_length c un L (i + 1) _ (fun k hk => by rw [putAt_length h2]; exact h k (by simp [hk])), putAt_length h2]

theorem mem_unl {s : St} {k : Nat} : k ∈ s.unl ↔ k < s.n ∧ ∃ l, s.un k = some l := by
  simp [St.unl, Option.isSome_iff_exists]

theorem left_length {s : St} (hs : s.Ok) (c : Nat → Bool) : (s.left c).length = s.safe.length := by
  refine leftGo_length c s.un s.unl 0 s.safe (fun k hk => ?_)
  obtain ⟨h1, l, h2⟩ := mem_unl.1 hk
  have := (hs.un k l h2).2
  have := hs.safe
  exact ⟨l, h2, by omega⟩

theorem becomes_ok {s : St} (hs : s.Ok) {l : List UInt8} (hl : l.length = s.safe.length) : (s.becomes l).Ok := by
  have e : (s.becomes l).n = s.n := by simp [St.n, St.becomes, hl]
  refine ⟨?_, by rw [e]; exact hs.n1, by rw [e]; exact hs.n2, (fun i l h => by cases h), hs.armed⟩
  rw [e]
  show l.length = _
  rw [hl]
  exact hs.safe

theorem dies_ok {s : St} (hs : s.Ok) (ks : List Int) : (s.dies ks).Ok := by
  have h := becomes_ok hs (left_length hs (comes ks))
  exact ⟨h.safe, h.n1, h.n2, h.un, by show 0 ≤ _; omega⟩
theorem dies_n {s : St} (hs : s.Ok) (ks : List Int) : (s.dies ks).n = s.n := by
  have := left_length hs (comes ks)
  simp [St.n, St.dies, St.becomes, St.after, this]
theorem becomes_n {s : St} {l : List UInt8} (hl : l.length = s.safe.length) : (s.becomes l).n = s.n := by simp [St.n, St.becomes, hl]

theorem step_ok {s : St} (hs : s.Ok) : s.step.1.Ok := by
  unfold St.step
  split
  · exact hs
  · exact ⟨hs.safe, hs.n1, hs.n2, hs.un, by have := hs.armed; show s.armed - 1 ≤ _; omega⟩
theorem step_n (s : St) : s.step.1.n = s.n := by unfold St.step; split <;> rfl
theorem step_kept (s : St) : s.step.1.kept = s.kept := by unfold St.step; split <;> rfl

/-- A sector written. -/
def St.wr1 (s : St) (k : Nat) (l : List UInt8) : St := { s with un := fun j => if j = k then some l else s.un j }
theorem wr1_ok {s : St} (hs : s.Ok) {k : Nat} {l : List UInt8} (hk : k < s.n) (hl : l.length = 64) : (s.wr1 k l).Ok :=
  ⟨hs.safe, hs.n1, hs.n2, (fun i l' h => by
    simp only [St.wr1] at h
    split at h
    · rename_i e; subst e; cases h; exact ⟨hk, hl⟩
    · exact hs.un i l' h), hs.armed⟩

/-- So many sectors written, one behind the other, from 'at' on; true: the power went. -/
def wrs : Nat → Nat → List UInt8 → St → St × Bool
  | 0, _, _, s => (s, false)
  | m + 1, k, l, s =>
    if (s.wr1 k (l.take 64)).step.2 then ((s.wr1 k (l.take 64)).step.1.dies s.kept, true) else wrs m (k + 1) (l.drop 64) (s.wr1 k (l.take 64)).step.1

def errOf (b : Bool) : Int := if b then 2 else 0
def St.write (s : St) (a : Int) (l : List UInt8) : St × Int :=
  if s.dead then (s, 2) else if l.length % 64 ≠ 0 then (s, 172) else if a < 0 ∨ (s.n : Int) < a ∨ (s.n : Int) - a < (l.length / 64 : Nat) then (s, 171)
  else ((wrs (l.length / 64) a.toNat l s).1, errOf (wrs (l.length / 64) a.toNat l s).2)

def St.sync (s : St) : St × Int :=
  if s.dead then (s, 2) else if s.step.2 then (s.step.1.dies s.kept, 2) else (s.step.1.becomes s.step.1.image, 0)
def St.arm (s : St) (a : Int) (ks : List Int) : St × Int :=
  if s.dead then (s, 2) else if a < 0 then (s, 1) else ({ s with armed := a.toNat, kept := ks }, 0)
def St.crash (s : St) (ks : List Int) : St × Int := if s.dead then (s, 2) else (s.dies ks, 0)
def St.revive (s : St) : St := { s with armed := 0, dead := false }
def St.read (s : St) (a c : Int) : List UInt8 × Int :=
  if s.dead then ([], 2) else if a < 0 ∨ c < 0 ∨ (s.n : Int) < a ∨ (s.n : Int) - a < c then ([], 171)
  else ((List.range c.toNat).flatMap (fun i => (s.un (a.toNat + i)).getD ((s.safe.drop (64 * (a.toNat + i))).take 64)), 0)

theorem wrs_ok : ∀ (m k : Nat) (l : List UInt8) (s : St), s.Ok → k + m ≤ s.n → 64 * m ≤ l.length → (wrs m k l s).1.Ok ∧ (wrs m k l s).1.n = s.n
  | 0, _, _, s, hs, _, _ => ⟨hs, rfl⟩
  | m + 1, k, l, s, hs, h1, h2 => by
    have h3 : (s.wr1 k (l.take 64)).Ok := wr1_ok hs (by omega) (by rw [List.length_take]; omega)
    have h4 := step_ok h3
    have hn : (s.wr1 k (l.take 64)).step.1.n = s.n := step_n _
    rw [wrs]
    split
    · exact ⟨dies_ok h4 _, (dies_n h4 _).trans hn⟩
    · obtain ⟨h5, h6⟩ := wrs_ok m (k + 1) (l.drop 64) _ h4 (by omega) (by rw [List.length_drop]; omega)
      exact ⟨h5, h6.trans hn⟩

theorem write_ok {s : St} (hs : s.Ok) (a : Int) (l : List UInt8) : (s.write a l).1.Ok ∧ (s.write a l).1.n = s.n := by
  unfold St.write
  split
  · exact ⟨hs, rfl⟩
  split
  · exact ⟨hs, rfl⟩
  split
  · exact ⟨hs, rfl⟩
  · rename_i h
    exact wrs_ok _ _ _ s hs (by omega) (by omega)
theorem image_length {s : St} (hs : s.Ok) : s.image.length = s.safe.length := left_length hs _
theorem sync_ok {s : St} (hs : s.Ok) : s.sync.1.Ok ∧ s.sync.1.n = s.n := by
  have h4 := step_ok hs
  unfold St.sync
  split
  · exact ⟨hs, rfl⟩
  split
  · exact ⟨dies_ok h4 _, (dies_n h4 _).trans (step_n s)⟩
  · exact ⟨becomes_ok h4 (image_length h4), (becomes_n (image_length h4)).trans (step_n s)⟩
theorem arm_ok {s : St} (hs : s.Ok) {a : Int} (ha : a ≤ 9223372036854775807) (ks : List Int) : (s.arm a ks).1.Ok ∧ (s.arm a ks).1.n = s.n := by
  unfold St.arm
  split
  · exact ⟨hs, rfl⟩
  split
  · exact ⟨hs, rfl⟩
  · exact ⟨⟨hs.safe, hs.n1, hs.n2, hs.un, by show a.toNat ≤ _; omega⟩, rfl⟩
theorem crash_ok {s : St} (hs : s.Ok) (ks : List Int) : (s.crash ks).1.Ok ∧ (s.crash ks).1.n = s.n := by
  unfold St.crash
  split
  · exact ⟨hs, rfl⟩
  · exact ⟨dies_ok hs ks, dies_n hs ks⟩
theorem revive_ok {s : St} (hs : s.Ok) : s.revive.Ok ∧ s.revive.n = s.n := ⟨⟨hs.safe, hs.n1, hs.n2, hs.un, by show 0 ≤ _; omega⟩, rfl⟩

end Go.Proofs.YtjkhcfdflcndkaaGreat.D

/-
  What the disk's small methods do.
-/
namespace Go.Proofs.YtjkhcfdflcndkaaGreat.D
open Go.RowKit Go.Maps
set_option linter.unusedVariables false
set_option linter.unusedSimpArgs false

theorem fr_set1 (w : World) (g i : Nat) (u : Value) : Fr (· = g) w (w.setCell ⟨g, i, none⟩ u) := fr_set w g i u rfl
theorem fr_set2 (w : World) (g i j : Nat) (u v : Value) : Fr (· = g) w ((w.setCell ⟨g, i, none⟩ u).setCell ⟨g, j, none⟩ v) :=
  (fr_set1 w g i u).trans (fr_set1 _ g j v) (fun _ _ h => h)
theorem hid {p : Prop} (h : p) : Hid p := h

/-- (*Disk).step. -/
theorem step_c (w : World) (g bm : Nat) (s : St) (h : At w g bm s) (hs : s.Ok) :
    Calls Tryz.prog 91 #[.pointer (some ⟨g, 0, none⟩)] w fun e w' => e = .returned (.bool s.step.2) ∧ At w' g bm s.step.1 ∧ Fr (· = g) w w' := by
  have HA := hid h
  obtain ⟨⟨kv, h1, h2⟩, h3⟩ := h
  have c2 : w.cell? ⟨g, 2, none⟩ = some (.int .i64 s.armed) := cell_at h1 2
  have f2 : w.frozen? ⟨g, 2, none⟩ = false := frozen_at h1 2
  have ha := hs.armed
  clear h1 h2 h3 hs
  go_enter Tryz.func91, Tryz.ntmps91
  go_wp2
  · rename_i h0
    have h0 : s.armed = 0 := by simpa using h0
    go_ret
    have e1 : s.step = (s, false) := by simp [St.step, h0]
    rw [e1]
    exact ⟨rfl, HA.out, Fr.refl _ _⟩
  · rename_i h0
    have h0 : s.armed ≠ 0 := by simpa using h0
    go_ret
    have e1 : s.step = ({ s with armed := s.armed - 1 }, s.armed == 1) := by simp [St.step, h0]
    have e2 : ((s.armed : Int) - 1 == 0) = (s.armed == 1) := by rw [Bool.eq_iff_iff]; simp; omega
    have e3 : ((s.armed : Int) - 1) = ((s.armed - 1 : Nat) : Int) := by omega
    rw [e1, e2, e3]
    exact ⟨rfl, HA.out.cellsSet 2 _ (fun kv => rfl) rfl rfl, fr_set1 _ _ _ _⟩

/-- (*Disk).Count. -/
theorem count_c (w : World) (g bm : Nat) (s : St) (h : At w g bm s) (hs : s.Ok) :
    Calls Tryz.prog 79 #[.pointer (some ⟨g, 0, none⟩)] w fun e w' => e = .returned (.int .i64 s.n) ∧ w' = w := by
  obtain ⟨⟨kv, h1, h2⟩, h3⟩ := h
  have c0 : w.cell? ⟨g, 0, none⟩ = some (.string (bs s.safe)) := cell_at h1 0
  have ha := hid hs
  have h64 : s.safe.length ≤ 262144 := by have := hs.safe; have := hs.n2; omega
  clear h1 h2 h3 hs
  go_enter Tryz.func79, Tryz.ntmps79
  go_wp2
  go_ret
  exact ⟨rfl, rfl⟩

/-- (*Disk).Dead. -/
theorem dead_c (w : World) (g bm : Nat) (s : St) (h : At w g bm s) :
    Calls Tryz.prog 80 #[.pointer (some ⟨g, 0, none⟩)] w fun e w' => e = .returned (.bool s.dead) ∧ w' = w := by
  obtain ⟨⟨kv, h1, h2⟩, h3⟩ := h
  have c0 : w.cell? ⟨g, 4, none⟩ = some (.bool s.dead) := cell_at h1 4
  clear h1 h2 h3
  go_enter Tryz.func80, Tryz.ntmps80
  go_wp2
  go_ret
  exact ⟨rfl, rfl⟩

/-- (*Disk).Revive. -/
theorem revive_c (w : World) (g bm : Nat) (s : St) (h : At w g bm s) :
    Calls Tryz.prog 33 #[.pointer (some ⟨g, 0, none⟩)] w fun e w' => e = .returned (.tuple #[]) ∧ At w' g bm { s with armed := 0, dead := false } ∧ Fr (· = g) w w' := by
  have HA := hid h
  obtain ⟨⟨kv, h1, h2⟩, h3⟩ := h
  have HC := hid h1
  have f2 : w.frozen? ⟨g, 2, none⟩ = false := frozen_at h1 2
  have f4 : w.frozen? ⟨g, 4, none⟩ = false := frozen_at h1 4
  have c2 : w.cell? ⟨g, 2, none⟩ = some (.int .i64 s.armed) := cell_at h1 2
  have c4 : w.cell? ⟨g, 4, none⟩ = some (.bool s.dead) := cell_at h1 4
  clear h1 h2 h3
  go_enter Tryz.func33, Tryz.ntmps33
  go_wp2
  go_end0
  exact ⟨rfl, (HA.out.cellsSet (s' := { s with armed := 0 }) 2 _ (fun kv => rfl) rfl rfl).cellsSet 4 _ (fun kv => rfl) rfl rfl, fr_set2 w g 2 4 _ _⟩

/-- (*Disk).becomes. -/
theorem becomes_c (w : World) (g bm : Nat) (s : St) (l : List UInt8) (h : At w g bm s) :
    Calls Tryz.prog 92 #[.pointer (some ⟨g, 0, none⟩), .string (bs l)] w fun e w' => e = .returned (.tuple #[]) ∧ At w' g w.heap.size (s.becomes l) ∧ Fr (· = g) w w' := by
  have HA := hid h
  obtain ⟨⟨kv, h1, h2⟩, h3⟩ := h
  have HC := hid h1
  have f0 : w.frozen? ⟨g, 0, none⟩ = false := frozen_at h1 0
  have f1 : w.frozen? ⟨g, 1, none⟩ = false := frozen_at h1 1
  have c0 : w.cell? ⟨g, 0, none⟩ = some (.string (bs s.safe)) := cell_at h1 0
  have c1 : w.cell? ⟨g, 1, none⟩ = some (.map (some bm)) := cell_at h1 1
  have hmm := @run_makeMap Tryz.prog
  have hb : g < w.heap.size := lt_of_at h1
  clear h1 h2 h3
  go_enter Tryz.func92, Tryz.ntmps92
  go_wp2
  go_end0
  have hf : Fr (· = g) w (((w.setCell ⟨g, 0, none⟩ (.string (bs l))).setCell ⟨g, 1, none⟩ (.map (some w.heap.size)))) := fr_set2 w g 0 1 _ _
  have hz : (((w.setCell ⟨g, 0, none⟩ (.string (bs l))).setCell ⟨g, 1, none⟩ (.map (some w.heap.size)))).heap.size = w.heap.size := by simp [World.setCell]
  have hA := HA.out
  obtain ⟨⟨kv', h1, h2⟩, _⟩ := hA
  refine ⟨rfl, ⟨⟨kv', ?_, ?_⟩, 0, .map [], ?_, ⟨fun i => ?_, fun i z => ?_⟩, ?_⟩, hf.alloc _⟩
  · rw [Below.heap_alloc _ _ _ (by rw [hz]; exact hb), set_at (set_at h1 0 _) 1 _]
    rfl
  · exact h2.keep (hf.alloc _) (fun b cur hb' e => by subst e; rw [h1] at hb'; cases hb')
  · have := World.ownsMap_made ((w.setCell ⟨g, 0, none⟩ (.string (bs l))).setCell ⟨g, 1, none⟩ (.map (some w.heap.size))) Tryz.prog 3 (plainElem (H := Unit) Tryz.prog 9)
    rwa [hz] at this
  · rfl
  · rfl
  · intro k hk; cases hk

/-- Image's function. -/
theorem all_c (i : Int) (w : World) : Calls Tryz.prog 59 #[.int .i64 i] w fun e w' => e = .returned (.bool true) ∧ Fr (fun _ => False) w w' := by
  go_enter Tryz.func59, Tryz.ntmps59
  go_wp2
  go_ret
  exact ⟨rfl, Fr.refl _ _⟩

/-- After's function: its captured variable is block c. -/
theorem comes_c (i : Nat) (c : Nat) (v : Value) (ks : List Int) (w : World) (hc : w.heap[c]? = some (.cells #[v] 38)) (hv : IntsV w v ks) :
    Calls Tryz.prog 77 #[.int .i64 i, .pointer (some ⟨c, 0, none⟩)] w fun e w' => e = .returned (.bool (comes ks i)) ∧ Fr (fun _ => False) w w' := by
  obtain ⟨a, cap, rfl, hlen, h2⟩ := hv
  have c0 : w.cell? ⟨c, 0, none⟩ = some (.slice a ks.length cap) := cell_at hc 0
  by_cases hi : i < ks.length
  · obtain ⟨b, o, rfl, h3⟩ : ∃ b o, a = some ⟨b, o, none⟩ ∧ ∀ j, j < ks.length → w.cell? ⟨b, o + j, none⟩ = some (.int .i64 (ks.getD j 0)) := by
      rcases h2 with h2 | h2
      · subst h2; simp at hi
      · exact h2
    have ce : w.cell? ⟨b, o + i, none⟩ = some (.int .i64 (ks.getD i 0)) := h3 i hi
    have hr : comes ks i = decide (0 < ks.getD i 0) := by simp only [comes, hi, decide_true, Bool.true_and]
    rw [hr]
    generalize ks.getD i 0 = k at ce
    clear h2 h3 hr hc
    go_enter Tryz.func77, Tryz.ntmps77
    go_wp2
    all_goals (go_ret; exact ⟨rfl, Fr.refl _ _⟩)
  · have hr : comes ks i = false := by simp only [comes, hi, decide_false, Bool.false_and]
    rw [hr]
    clear h2 hc hr
    go_enter Tryz.func77, Tryz.ntmps77
    go_wp2
    all_goals (go_ret; exact ⟨rfl, Fr.refl _ _⟩)

end Go.Proofs.YtjkhcfdflcndkaaGreat.D
