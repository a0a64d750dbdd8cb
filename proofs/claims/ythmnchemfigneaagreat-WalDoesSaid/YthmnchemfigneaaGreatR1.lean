/-
  The document's disk in memory; its small methods. No condition beyond the disk's own.
-/
import Derived.Test.YthmnchemfigneaaGreatDK0
namespace Go.Proofs.YthmnchemfigneaaGreat.D
open Go.RowKit Go.Maps Go.Shelf
set_option linter.unusedVariables false
set_option linter.unusedSimpArgs false

/-- Block b holds, from its first cell on, n strings. -/
def RowP (w : World) (b n : Nat) (f : Nat → List UInt8) : Prop := ∃ cur, w.heap[b]? = some (.cells cur 9) ∧ ∀ i, i < n → cur[i]? = some (.string (bs (f i)))

theorem RowP.cell {w : World} {b n i : Nat} {f : Nat → List UInt8} (h : RowP w b n f) (hi : i < n) : w.cell? ⟨b, i, none⟩ = some (.string (bs (f i))) := by
  obtain ⟨cur, h1, h2⟩ := h
  rw [cell_at h1]
  exact h2 i hi
theorem RowP.frozen {w : World} {b n : Nat} {f : Nat → List UInt8} (h : RowP w b n f) (i : Nat) : w.frozen? ⟨b, i, none⟩ = false := by
  obtain ⟨cur, h1, _⟩ := h
  exact frozen_at h1 i
theorem RowP.congr {w : World} {b n : Nat} {f h : Nat → List UInt8} (hr : RowP w b n f) (e : ∀ i, i < n → f i = h i) : RowP w b n h := by
  obtain ⟨cur, h1, h2⟩ := hr
  exact ⟨cur, h1, fun i hi => by rw [← e i hi]; exact h2 i hi⟩
theorem RowP.keep {S : Nat → Prop} {w w' : World} {b n : Nat} {f : Nat → List UInt8} (h : RowP w b n f) (hf : Fr S w w') (hn : ¬ S b) : RowP w' b n f := by
  obtain ⟨cur, h1, h2⟩ := h
  exact ⟨cur, hf.at h1 hn, h2⟩
theorem RowP.set {w : World} {b n j : Nat} {f : Nat → List UInt8} (h : RowP w b n f) (hj : j < n) (l : List UInt8) : RowP (w.setCell ⟨b, j, none⟩ (.string (bs l))) b n (fun i => if i = j then l else f i) := by
  obtain ⟨cur, h1, h2⟩ := h
  refine ⟨_, set_at h1 j _, fun i hi => ?_⟩
  have hs : i < cur.size := (Array.getElem?_eq_some_iff.1 (h2 i hi)).1
  show (cur.setIfInBounds j _)[i]? = some (.string (bs (if i = j then l else f i)))
  by_cases e : i = j
  · subst e
    rw [if_pos rfl]
    simp [hs]
  · rw [if_neg e, Array.getElem?_setIfInBounds_ne (fun e2 => e e2.symm)]
    exact h2 i hi
theorem RowP.of_row {w : World} {b n : Nat} {f : Nat → List UInt8} (h : RowIs w b n f) : RowP w b n f :=
  ⟨_, h, fun i hi => by simpa using rowOf_get (f := f) hi⟩
/-- A row that a call owns. -/
theorem RowP.of_own {w : World} {B n g cap : Nat} {f : Nat → List UInt8} {xs : List Value} (h : w.ownsRow B 9 1 (.slice (some ⟨g, 0, none⟩) n cap) n xs) (hx : ∀ i, i < n → xs[i]? = some (.string (bs (f i)))) : RowP w g n f := by
  rcases h.2 with ⟨h0, _⟩ | ⟨g', cap', cur, h0, _, hb, _, _, _, ht⟩
  · cases h0
  · cases h0
    refine ⟨cur, hb, fun i hi => ?_⟩
    have h3 := hx i hi
    rw [← ht, Nat.mul_one, List.getElem?_take_of_lt hi] at h3
    simpa using h3
theorem rowP_apart {w : World} {b b' n : Nat} {f : Nat → List UInt8} {c : Array Value} {T : TypeId} (h : RowP w b' n f) (hb : w.heap[b]? = some (.cells c T)) (hT : T ≠ 9) : b ≠ b' := by
  obtain ⟨cur, h1, _⟩ := h
  rintro rfl
  rw [h1] at hb
  injection hb with hb
  injection hb with _ e2
  exact hT e2.symm
theorem RowP.lt {w : World} {b n : Nat} {f : Nat → List UInt8} (h : RowP w b n f) : b < w.heap.size := by
  obtain ⟨cur, h1, _⟩ := h
  exact lt_of_at h1

/-- Block g is the document's disk: its rows of safe and of written sectors in blocks b1, b2. -/
structure RC (w : World) (g b1 b2 n : Nat) (f1 f2 : Nat → List UInt8) (armed : Nat) (kept : List Int) (dead : Bool) : Prop where
  cells : ∃ c1 c2 kv, w.heap[g]? = some (.cells #[.slice (some ⟨b1, 0, none⟩) n c1, .slice (some ⟨b2, 0, none⟩) n c2, .int .i64 armed, kv, .bool dead] 78) ∧ IntsAt w kv kept
  safe : RowP w b1 n f1
  writ : RowP w b2 n f2
  ne : b1 ≠ b2

def uns (S : St) (i : Nat) : List UInt8 := (S.un i).getD []
def RA (w : World) (g b1 b2 : Nat) (S : St) : Prop := RC w g b1 b2 S.n (piece S.safe) (uns S) S.armed S.kept S.dead

theorem RC.stay {w w' : World} {g b1 b2 n armed : Nat} {f1 f2 : Nat → List UInt8} {kept : List Int} {dead : Bool} (h : RC w g b1 b2 n f1 f2 armed kept dead) (hf : Fr (fun _ => False) w w') : RC w' g b1 b2 n f1 f2 armed kept dead := by
  obtain ⟨⟨c1, c2, kv, h1, h2⟩, h3, h4, h5⟩ := h
  exact ⟨⟨c1, c2, kv, hf.at h1 (fun f => f), h2.stay hf⟩, h3.keep hf (fun f => f), h4.keep hf (fun f => f), h5⟩
theorem RC.congr {w : World} {g b1 b2 n armed : Nat} {f1 f2 h1 h2 : Nat → List UInt8} {kept : List Int} {dead : Bool} (h : RC w g b1 b2 n f1 f2 armed kept dead) (e1 : ∀ i, i < n → f1 i = h1 i) (e2 : ∀ i, i < n → f2 i = h2 i) : RC w g b1 b2 n h1 h2 armed kept dead :=
  ⟨h.cells, h.safe.congr e1, h.writ.congr e2, h.ne⟩

theorem int_apart {w : World} {g b : Nat} {c cur : Array Value} {T : TypeId} (hg : w.heap[g]? = some (.cells c T)) (hb : w.heap[b]? = some (.cells cur 3)) (hT : T ≠ 3) : b ≠ g := by
  rintro rfl
  rw [hg] at hb
  injection hb with hb
  injection hb with _ e2
  exact hT e2

/-- One of the two rows is written. -/
theorem RC.put1 {w : World} {g b1 b2 n armed j : Nat} {f1 f2 : Nat → List UInt8} {kept : List Int} {dead : Bool} (h : RC w g b1 b2 n f1 f2 armed kept dead) (hj : j < n) (l : List UInt8) :
    RC (w.setCell ⟨b1, j, none⟩ (.string (bs l))) g b1 b2 n (fun i => if i = j then l else f1 i) f2 armed kept dead := by
  obtain ⟨⟨c1, c2, kv, h1, h2⟩, h3, h4, h5⟩ := h
  have hf : Fr (· = b1) w (w.setCell ⟨b1, j, none⟩ (.string (bs l))) := fr_set1 _ _ _ _
  exact ⟨⟨c1, c2, kv, hf.at h1 (rowP_apart h3 h1 (by decide)), h2.keep hf (fun b cur hb => rowP_apart h3 hb (by decide))⟩, h3.set hj l, h4.keep hf (fun e => h5 e.symm), h5⟩
theorem RC.put2 {w : World} {g b1 b2 n armed j : Nat} {f1 f2 : Nat → List UInt8} {kept : List Int} {dead : Bool} (h : RC w g b1 b2 n f1 f2 armed kept dead) (hj : j < n) (l : List UInt8) :
    RC (w.setCell ⟨b2, j, none⟩ (.string (bs l))) g b1 b2 n f1 (fun i => if i = j then l else f2 i) armed kept dead := by
  obtain ⟨⟨c1, c2, kv, h1, h2⟩, h3, h4, h5⟩ := h
  have hf : Fr (· = b2) w (w.setCell ⟨b2, j, none⟩ (.string (bs l))) := fr_set1 _ _ _ _
  exact ⟨⟨c1, c2, kv, hf.at h1 (rowP_apart h4 h1 (by decide)), h2.keep hf (fun b cur hb => rowP_apart h4 hb (by decide))⟩, h3.keep hf h5, h4.set hj l, h5⟩
theorem RC.low {w : World} {g b1 b2 n armed : Nat} {f1 f2 : Nat → List UInt8} {kept : List Int} {dead : Bool} (h : RC w g b1 b2 n f1 f2 armed kept dead) : g < w.heap.size ∧ b1 < w.heap.size ∧ b2 < w.heap.size := by
  obtain ⟨⟨c1, c2, kv, h1, h2⟩, h3, h4, h5⟩ := h
  exact ⟨lt_of_at h1, h3.lt, h4.lt⟩

/-- The number of steps is set; the disk is dead or not. -/
theorem RC.setArmed {w : World} {g b1 b2 n armed : Nat} {f1 f2 : Nat → List UInt8} {kept : List Int} {dead : Bool} (h : RC w g b1 b2 n f1 f2 armed kept dead) (a : Nat) : RC (w.setCell ⟨g, 2, none⟩ (.int .i64 a)) g b1 b2 n f1 f2 a kept dead := by
  obtain ⟨⟨c1, c2, kv, h1, h2⟩, h3, h4, h5⟩ := h
  have hf : Fr (· = g) w (w.setCell ⟨g, 2, none⟩ (.int .i64 a)) := fr_set1 _ _ _ _
  exact ⟨⟨c1, c2, kv, set_at h1 2 _, h2.keep hf (fun b cur hb => int_apart h1 hb (by decide))⟩, h3.keep hf (fun e => rowP_apart h3 h1 (by decide) e.symm), h4.keep hf (fun e => rowP_apart h4 h1 (by decide) e.symm), h5⟩
theorem RC.setDead {w : World} {g b1 b2 n armed : Nat} {f1 f2 : Nat → List UInt8} {kept : List Int} {dead : Bool} (h : RC w g b1 b2 n f1 f2 armed kept dead) (a : Bool) : RC (w.setCell ⟨g, 4, none⟩ (.bool a)) g b1 b2 n f1 f2 armed kept a := by
  obtain ⟨⟨c1, c2, kv, h1, h2⟩, h3, h4, h5⟩ := h
  have hf : Fr (· = g) w (w.setCell ⟨g, 4, none⟩ (.bool a)) := fr_set1 _ _ _ _
  exact ⟨⟨c1, c2, kv, set_at h1 4 _, h2.keep hf (fun b cur hb => int_apart h1 hb (by decide))⟩, h3.keep hf (fun e => rowP_apart h3 h1 (by decide) e.symm), h4.keep hf (fun e => rowP_apart h4 h1 (by decide) e.symm), h5⟩

theorem rstep_c (w : World) (g b1 b2 n armed : Nat) (f1 f2 : Nat → List UInt8) (kept : List Int) (dead : Bool) (h : RC w g b1 b2 n f1 f2 armed kept dead) (ha : armed ≤ 9223372036854775807) :
    Calls Tryz.prog 65 #[.pointer (some ⟨g, 0, none⟩)] w fun e w' => e = .returned (.bool (armed == 1)) ∧ RC w' g b1 b2 n f1 f2 (armed - 1) kept dead ∧ Fr (· = g) w w' := by
  have HA := hid h
  obtain ⟨⟨c1, c2, kv, h1, h2⟩, h3⟩ := h
  have k2 : w.cell? ⟨g, 2, none⟩ = some (.int .i64 armed) := cell_at h1 2
  have f2' : w.frozen? ⟨g, 2, none⟩ = false := frozen_at h1 2
  clear h1 h2 h3
  by_cases h0 : armed = 0
  · subst h0
    go_enter Tryz.func65, Tryz.ntmps65
    go_wp2
    go_ret
    exact ⟨rfl, HA.out, Fr.refl _ _⟩
  · have hp : (0 : Int) < armed := by omega
    go_enter Tryz.func65, Tryz.ntmps65
    go_wp2
    go_ret
    have e2 : ((armed : Int) - 1 == 0) = (armed == 1) := by rw [Bool.eq_iff_iff]; simp; omega
    have e3 : ((armed : Int) - 1) = ((armed - 1 : Nat) : Int) := by omega
    rw [e2, e3]
    exact ⟨rfl, HA.out.setArmed _, fr_set1 _ _ _ _⟩

theorem rrevive_c (w : World) (g b1 b2 n armed : Nat) (f1 f2 : Nat → List UInt8) (kept : List Int) (dead : Bool) (h : RC w g b1 b2 n f1 f2 armed kept dead) :
    Calls Tryz.prog 17 #[.pointer (some ⟨g, 0, none⟩)] w fun e w' => e = .returned (.tuple #[]) ∧ RC w' g b1 b2 n f1 f2 0 kept false ∧ Fr (· = g) w w' := by
  have HA := hid h
  obtain ⟨⟨c1, c2, kv, h1, h2⟩, h3⟩ := h
  have k2 : w.cell? ⟨g, 2, none⟩ = some (.int .i64 armed) := cell_at h1 2
  have f2' : w.frozen? ⟨g, 2, none⟩ = false := frozen_at h1 2
  have k4 : w.cell? ⟨g, 4, none⟩ = some (.bool dead) := cell_at h1 4
  have f4' : w.frozen? ⟨g, 4, none⟩ = false := frozen_at h1 4
  clear h1 h2 h3
  go_enter Tryz.func17, Tryz.ntmps17
  go_wp2
  go_end0
  exact ⟨rfl, (HA.out.setDead false).setArmed 0, fr_set2 _ _ _ _ _ _⟩

theorem rsector_c (w : World) (g b1 b2 n armed : Nat) (f1 f2 : Nat → List UInt8) (kept : List Int) (dead : Bool) (h : RC w g b1 b2 n f1 f2 armed kept dead) (hn : n ≤ 4096) (i : Nat) (hi : i < n) :
    Calls Tryz.prog 52 #[.pointer (some ⟨g, 0, none⟩), .int .i64 i] w fun e w' => e = .returned (.string (bs (if f2 i = [] then f1 i else f2 i))) ∧ w' = w := by
  obtain ⟨⟨c1, c2, kv, h1, h2⟩, h3, h4, h5⟩ := h
  have k0 : w.cell? ⟨g, 0, none⟩ = some (.slice (some ⟨b1, 0, none⟩) n c1) := cell_at h1 0
  have k1 : w.cell? ⟨g, 1, none⟩ = some (.slice (some ⟨b2, 0, none⟩) n c2) := cell_at h1 1
  have r1 := h3.cell hi
  have r2 := h4.cell hi
  obtain ⟨x, hx⟩ : ∃ x, x = f1 i := ⟨_, rfl⟩
  obtain ⟨y, hy⟩ : ∃ y, y = f2 i := ⟨_, rfl⟩
  rw [← hx] at r1 ⊢
  rw [← hy] at r2 ⊢
  clear h1 h2 h3 h4 h5 hx hy
  by_cases e : y = []
  · subst e
    rw [if_pos rfl]
    go_enter Tryz.func52, Tryz.ntmps52
    go_wp2
    go_ret
    exact ⟨rfl, rfl⟩
  · rw [if_neg e]
    have hy1 : y.isEmpty = false := by simpa using e
    go_enter Tryz.func52, Tryz.ntmps52
    go_wp2
    go_ret
    exact ⟨rfl, rfl⟩

end Go.Proofs.YthmnchemfigneaaGreat.D
