/-
  The document's disk in memory; its small methods. No condition beyond the disk's own.
-/
import Derived.Test.YtjkhcfdflcndkaaGreatKO16
import Derived.Lib.AppendStr
namespace Go.Proofs.YtjkhcfdflcndkaaGreat.D
open Go.RowKit Go.Maps Go.Shelf
set_option linter.unusedVariables false
set_option linter.unusedSimpArgs false

/-- Block b holds, from its first cell on, n strings. -/
def RowP (w : World) (b n : Nat) (f : Nat → List UInt8) : Prop := ∃ cur, w.heap[b]? = some (.cells cur 9) ∧ ∀ i, i < n → cur[i]? = some (.string (bs (f i)))

theorem RowP.cell {w : World} {b n i : Nat} {f : Nat → List UInt8} (h : RowP w b n f) (hi : i < n) : w.cell? ⟨b, i, none⟩ = some (.string (bs (f i))) := by
  obtain ⟨cur, h1, h2⟩ := h
  rw [cell_at h1]
  exact h2 i hi
theorem RowP.frozen {w : World} {b n : Nat} {f : Nat → List UInt8} (h : RowP w b n f) (i : Nat) : w.frozen? ⟨b, i, none⟩ = false := by
  obtain ⟨cur, h1, _⟩ := h
  exact frozen_at h1 i
theorem RowP.congr {w : World} {b n : Nat} {f h : Nat → List UInt8} (hr : RowP w b n f) (e : ∀ i, i < n → f i = h i) : RowP w b n h := by
  obtain ⟨cur, h1, h2⟩ := hr
  exact ⟨cur, h1, fun i hi => by rw [← e i hi]; exact h2 i hi⟩
theorem RowP.keep {S : Nat → Prop} {w w' : World} {b n : Nat} {f : Nat → List UInt8} (h : RowP w b n f) (hf : Fr S w w') (hn : ¬ S b) : RowP w' b n f := by
  obtain ⟨cur, h1, h2⟩ := h
  exact ⟨cur, hf.at h1 hn, h2⟩
theorem RowP.set {w : World} {b n j : Nat} {f : Nat → List UInt8} (h : RowP w b n f) (hj : j < n) (l : List UInt8) : RowP (w.setCell ⟨b, j, none⟩ (.string (bs l))) b n (fun i => if i = j then l else f i) := by
  obtain ⟨cur, h1, h2⟩ := h
  refine ⟨_, set_at h1 j _, fun i hi => ?_⟩
  have hs : i < cur.size := (Array.getElem?_eq_some_iff.1 (h2 i hi)).1
  show (cur.setIfInBounds j _)[i]? = some (.string (bs (if i = j then l else f i)))
  by_cases e : i = j
  · subst e
    rw [if_pos rfl]
    simp [hs]
  · rw [if_neg e, Array.getElem?_setIfInBounds_ne (fun e2 => e e2.symm)]
    exact h2 i hi
theorem RowP.of_row {w : World} {b n : Nat} {f : Nat → List UInt8} (h : RowIs w b n f) : RowP w b n f :=
  ⟨_, h, fun i hi => by simpa using rowOf_get (f := f) hi⟩
/-- A row that a call owns. -/
theorem RowP.of_own {w : World} {B n g cap : Nat} {f : Nat → List UInt8} {xs : List Value} (h : w.ownsRow B 9 1 (.slice (some ⟨g, 0, none⟩) n cap) n xs) (hx : ∀ i, i < n → xs[i]? = some (.string (bs (f i)))) : RowP w g n f := by
  rcases h.2 with ⟨h0, _⟩ | ⟨g', cap', cur, h0, _, hb, _, _, _, ht⟩
  · cases h0
  · cases h0
    refine ⟨cur, hb, fun i hi => ?_⟩
    have h3 := hx i hi
    rw [← ht, Nat.mul_one, List.getElem?_take_of_lt hi] at h3
    simpa using h3
theorem rowP_apart {w : World} {b b' n : Nat} {f : Nat → List UInt8} {c : Array Value} {T : TypeId} (h : RowP w b' n f) (hb : w.heap[b]? = some (.cells c T)) (hT : T ≠ 9) : b ≠ b' := by
  obtain ⟨cur, h1, _⟩ := h
  rintro rfl
  rw [h1] at hb
  injection hb with hb
  injection hb with _ e2
  exact hT e2.symm
theorem RowP.lt {w : World} {b n : Nat} {f : Nat → List UInt8} (h : RowP w b n f) : b < w.heap.size := by
  obtain ⟨cur, h1, _⟩ := h
  exact lt_of_at h1

/-- Block g is the document's disk: its rows of safe and of written sectors in blocks b1, b2. -/
structure RC (w : World) (g b1 b2 n : Nat) (f1 f2 : Nat → List UInt8) (armed : Nat) (kept : List Int) (dead : Bool) : Prop where
  cells : ∃ c1 c2 kv, w.heap[g]? = some (.cells #[.slice (some ⟨b1, 0, none⟩) n c1, .slice (some ⟨b2, 0, none⟩) n c2, .int .i64 armed, kv, .bool dead] 84) ∧ IntsAt w kv kept
  safe : RowP w b1 n f1
  writ : RowP w b2 n f2
  ne : b1 ≠ b2

def uns (S : St) (i : Nat) : List UInt8 := (S.un i).getD []
def RA (w : World) (g b1 b2 : Nat) (S : St) : Prop := RC w g b1 b2 S.n (piece S.safe) (uns S) S.armed S.kept S.dead

theorem RC.stay {w w' : World} {g b1 b2 n armed : Nat} {f1 f2 : Nat → List UInt8} {kept : List Int} {dead : Bool} (h : RC w g b1 b2 n f1 f2 armed kept dead) (hf : Fr (fun _ => False) w w') : RC w' g b1 b2 n f1 f2 armed kept dead := by
  obtain ⟨⟨c1, c2, kv, h1, h2⟩, h3, h4, h5⟩ := h
  exact ⟨⟨c1, c2, kv, hf.at h1 (fun f => f), h2.stay hf⟩, h3.keep hf (fun f => f), h4.keep hf (fun f => f), h5⟩
theorem RC.congr {w : World} {g b1 b2 n armed : Nat} {f1 f2 h1 h2 : Nat → List UInt8} {kept : List Int} {dead : Bool} (h : RC w g b1 b2 n f1 f2 armed kept dead) (e1 : ∀ i, i < n → f1 i = h1 i) (e2 : ∀ i, i < n → f2 i = h2 i) : RC w g b1 b2 n h1 h2 armed kept dead :=
  ⟨h.cells, h.safe.congr e1, h.writ.congr e2, h.ne⟩

theorem int_apart {w : World} {g b : Nat} {c cur : Array Value} {T : TypeId} (hg : w.heap[g]? = some (.cells c T)) (hb : w.heap[b]? = some (.cells cur 3)) (hT : T ≠ 3) : b ≠ g := by
  rintro rfl
  rw [hg] at hb
  injection hb with hb
  injection hb with _ e2
  exact hT e2

/-- One of the two rows is written. -/
theorem RC.put1 {w : World} {g b1 b2 n armed j : Nat} {f1 f2 : Nat → List UInt8} {kept : List Int} {dead : Bool} (h : RC w g b1 b2 n f1 f2 armed kept dead) (hj : j < n) (l : List UInt8) :
    RC (w.setCell ⟨b1, j, none⟩ (.string (bs l))) g b1 b2 n (fun i => if i = j then l else f1 i) f2 armed kept dead := by
  obtain ⟨⟨c1, c2, kv, h1, h2⟩, h3, h4, h5⟩ := h
  have hf : Fr (· = b1) w (w.setCell ⟨b1, j, none⟩ (.string (bs l))) := fr_set1 _ _ _ _
  exact ⟨⟨c1, c2, kv, hf.at h1 (rowP_apart h3 h1 (by decide)), h2.keep hf (fun b cur hb => rowP_apart h3 hb (by decide))⟩, h3.set hj l, h4.keep hf (fun e => h5 e.symm), h5⟩
theorem RC.put2 {w : World} {g b1 b2 n armed j : Nat} {f1 f2 : Nat → List UInt8} {kept : List Int} {dead : Bool} (h : RC w g b1 b2 n f1 f2 armed kept dead) (hj : j < n) (l : List UInt8) :
    RC (w.setCell ⟨b2, j, none⟩ (.string (bs l))) g b1 b2 n f1 (fun i => if i = j then l else f2 i) armed kept dead := by
  obtain ⟨⟨c1, c2, kv, h1, h2⟩, h3, h4, h5⟩ := h
  have hf : Fr (· = b2) w (w.setCell ⟨b2, j, none⟩ (.string (bs l))) := fr_set1 _ _ _ _
  exact ⟨⟨c1, c2, kv, hf.at h1 (rowP_apart h4 h1 (by decide)), h2.keep hf (fun b cur hb => rowP_apart h4 hb (by decide))⟩, h3.keep hf h5, h4.set hj l, h5⟩
theorem RC.low {w : World} {g b1 b2 n armed : Nat} {f1 f2 : Nat → List UInt8} {kept : List Int} {dead : Bool} (h : RC w g b1 b2 n f1 f2 armed kept dead) : g < w.heap.size ∧ b1 < w.heap.size ∧ b2 < w.heap.size := by
  obtain ⟨⟨c1, c2, kv, h1, h2⟩, h3, h4, h5⟩ := h
  exact ⟨lt_of_at h1, h3.lt, h4.lt⟩

/-- The number of steps is set; the disk is dead or not. -/
theorem RC.setArmed {w : World} {g b1 b2 n armed : Nat} {f1 f2 : Nat → List UInt8} {kept : List Int} {dead : Bool} (h : RC w g b1 b2 n f1 f2 armed kept dead) (a : Nat) : RC (w.setCell ⟨g, 2, none⟩ (.int .i64 a)) g b1 b2 n f1 f2 a kept dead := by
  obtain ⟨⟨c1, c2, kv, h1, h2⟩, h3, h4, h5⟩ := h
  have hf : Fr (· = g) w (w.setCell ⟨g, 2, none⟩ (.int .i64 a)) := fr_set1 _ _ _ _
  exact ⟨⟨c1, c2, kv, set_at h1 2 _, h2.keep hf (fun b cur hb => int_apart h1 hb (by decide))⟩, h3.keep hf (fun e => rowP_apart h3 h1 (by decide) e.symm), h4.keep hf (fun e => rowP_apart h4 h1 (by decide) e.symm), h5⟩
theorem RC.setDead {w : World} {g b1 b2 n armed : Nat} {f1 f2 : Nat → List UInt8} {kept : List Int} {dead : Bool} (h : RC w g b1 b2 n f1 f2 armed kept dead) (a : Bool) : RC (w.setCell ⟨g, 4, none⟩ (.bool a)) g b1 b2 n f1 f2 armed kept a := by
  obtain ⟨⟨c1, c2, kv, h1, h2⟩, h3, h4, h5⟩ := h
  have hf : Fr (· = g) w (w.setCell ⟨g, 4, none⟩ (.bool a)) := fr_set1 _ _ _ _
  exact ⟨⟨c1, c2, kv, set_at h1 4 _, h2.keep hf (fun b cur hb => int_apart h1 hb (by decide))⟩, h3.keep hf (fun e => rowP_apart h3 h1 (by decide) e.symm), h4.keep hf (fun e => rowP_apart h4 h1 (by decide) e.symm), h5⟩

theorem rstep_c (w : World) (g b1 b2 n armed : Nat) (f1 f2 : Nat → List UInt8) (kept : List Int) (dead : Bool) (h : RC w g b1 b2 n f1 f2 armed kept dead) (ha : armed ≤ 9223372036854775807) :
    Calls Tryz.prog 93 #[.pointer (some ⟨g, 0, none⟩)] w fun e w' => e = .returned (.bool (armed == 1)) ∧ RC w' g b1 b2 n f1 f2 (armed - 1) kept dead ∧ Fr (· = g) w w' := by
  have HA := hid h
  obtain ⟨⟨c1, c2, kv, h1, h2⟩, h3⟩ := h
  have k2 : w.cell? ⟨g, 2, none⟩ = some (.int .i64 armed) := cell_at h1 2
  have f2' : w.frozen? ⟨g, 2, none⟩ = false := frozen_at h1 2
  clear h1 h2 h3
  by_cases h0 : armed = 0
  · subst h0
    go_enter Tryz.func93, Tryz.ntmps93
    go_wp2
    go_ret
    exact ⟨rfl, HA.out, Fr.refl _ _⟩
  · have hp : (0 : Int) < armed := by omega
    go_enter Tryz.func93, Tryz.ntmps93
    go_wp2
    go_ret
    have e2 : ((armed : Int) - 1 == 0) = (armed == 1) := by rw [Bool.eq_iff_iff]; simp; omega
    have e3 : ((armed : Int) - 1) = ((armed - 1 : Nat) : Int) := by omega
    rw [e2, e3]
    exact ⟨rfl, HA.out.setArmed _, fr_set1 _ _ _ _⟩

theorem rrevive_c (w : World) (g b1 b2 n armed : Nat) (f1 f2 : Nat → List UInt8) (kept : List Int) (dead : Bool) (h : RC w g b1 b2 n f1 f2 armed kept dead) :
    Calls Tryz.prog 34 #[.pointer (some ⟨g, 0, none⟩)] w fun e w' => e = .returned (.tuple #[]) ∧ RC w' g b1 b2 n f1 f2 0 kept false ∧ Fr (· = g) w w' := by
  have HA := hid h
  obtain ⟨⟨c1, c2, kv, h1, h2⟩, h3⟩ := h
  have k2 : w.cell? ⟨g, 2, none⟩ = some (.int .i64 armed) := cell_at h1 2
  have f2' : w.frozen? ⟨g, 2, none⟩ = false := frozen_at h1 2
  have k4 : w.cell? ⟨g, 4, none⟩ = some (.bool dead) := cell_at h1 4
  have f4' : w.frozen? ⟨g, 4, none⟩ = false := frozen_at h1 4
  clear h1 h2 h3
  go_enter Tryz.func34, Tryz.ntmps34
  go_wp2
  go_end0
  exact ⟨rfl, (HA.out.setDead false).setArmed 0, fr_set2 _ _ _ _ _ _⟩

theorem rsector_c (w : World) (g b1 b2 n armed : Nat) (f1 f2 : Nat → List UInt8) (kept : List Int) (dead : Bool) (h : RC w g b1 b2 n f1 f2 armed kept dead) (hn : n ≤ 4096) (i : Nat) (hi : i < n) :
    Calls Tryz.prog 47 #[.pointer (some ⟨g, 0, none⟩), .int .i64 i] w fun e w' => e = .returned (.string (bs (if f2 i = [] then f1 i else f2 i))) ∧ w' = w := by
  obtain ⟨⟨c1, c2, kv, h1, h2⟩, h3, h4, h5⟩ := h
  have k0 : w.cell? ⟨g, 0, none⟩ = some (.slice (some ⟨b1, 0, none⟩) n c1) := cell_at h1 0
  have k1 : w.cell? ⟨g, 1, none⟩ = some (.slice (some ⟨b2, 0, none⟩) n c2) := cell_at h1 1
  have r1 := h3.cell hi
  have r2 := h4.cell hi
  obtain ⟨x, hx⟩ : ∃ x, x = f1 i := ⟨_, rfl⟩
  obtain ⟨y, hy⟩ : ∃ y, y = f2 i := ⟨_, rfl⟩
  rw [← hx] at r1 ⊢
  rw [← hy] at r2 ⊢
  clear h1 h2 h3 h4 h5 hx hy
  by_cases e : y = []
  · subst e
    rw [if_pos rfl]
    go_enter Tryz.func47, Tryz.ntmps47
    go_wp2
    go_ret
    exact ⟨rfl, rfl⟩
  · rw [if_neg e]
    have hy1 : y.isEmpty = false := by simpa using e
    go_enter Tryz.func47, Tryz.ntmps47
    go_wp2
    go_ret
    exact ⟨rfl, rfl⟩

end Go.Proofs.YtjkhcfdflcndkaaGreat.D

/-
  The document's disk: Unsafe, join. No condition beyond the disk's own.
-/
namespace Go.Proofs.YtjkhcfdflcndkaaGreat.D
open Go.RowKit Go.Maps Go.Shelf
set_option linter.unusedVariables false
set_option linter.unusedSimpArgs false

theorem below_fr {B : Nat} {w w' : World} (hw : Below B w w') (hB : w.heap.size ≤ B) : Fr (fun _ => False) w w' := ⟨hw.os, hw.tape, hw.output, hw.size, fun i hi _ => hw.block i (Nat.lt_of_lt_of_le hi hB)⟩
theorem RC.below {w w' : World} {B g b1 b2 n armed : Nat} {f1 f2 : Nat → List UInt8} {kept : List Int} {dead : Bool} (h : RC w g b1 b2 n f1 f2 armed kept dead) (hB : w.heap.size ≤ B) (hw : Below B w w') : RC w' g b1 b2 n f1 f2 armed kept dead :=
  h.stay (below_fr hw hB)
theorem RowP.below {w w' : World} {B b n : Nat} {f : Nat → List UInt8} (h : RowP w b n f) (hB : w.heap.size ≤ B) (hw : Below B w w') : RowP w' b n f :=
  h.keep (below_fr hw hB) (fun f => f)

def ul (f2 : Nat → List UInt8) (n : Nat) : List Nat := (List.range n).filter (fun i => !(f2 i).isEmpty)
theorem ul_one (f2 : Nat → List UInt8) (n : Nat) (h : f2 n ≠ []) : ul f2 (n + 1) = ul f2 n ++ [n] := by
  unfold ul
  rw [List.range_succ, List.filter_append]
  simp [h]
theorem ul_none (f2 : Nat → List UInt8) (n : Nat) (h : f2 n = []) : ul f2 (n + 1) = ul f2 n := by
  unfold ul
  rw [List.range_succ, List.filter_append]
  simp [h]
theorem ul_le (f2 : Nat → List UInt8) (n : Nat) : (ul f2 n).length ≤ n := by
  have := List.length_filter_le (fun i => !(f2 i).isEmpty) (List.range n)
  simpa [ul] using this
def ivals (l : List Nat) : List Value := l.map (fun (i : Nat) => Value.int .i64 (i : Int))
/-- An append by its run. -/
theorem wpList_append_run {P : Program} {w : World} {ops : Array Oper} {rest : List Oper} {o : Oper} {a : Act} {Q : Exit → Act → World → Prop} (hgd : o.guard = none) (s x : Operand) (t u : TypeId)
    (ho : o.op = .call { callee := .builtin .append, args := #[s, x], argTypes := #[t, u] })
    (vs vx v' : Value) (w' : World) (hs : a.eval s = vs) (hx : a.eval x = vx) (hrun : (Builtin.append_ #[t, u] o.type #[vs, vx]).run P w = .ok v' w')
    (h : wpList P ops Q rest (a.put o.dst v') w') : wpList P ops Q (o :: rest) a w := by
  refine wpList_plain hgd fun K hK => ?_
  unfold Oper.wp execOp
  simp only [ho, resolve, invoke, builtin, Sem.run_bind, Sem.run_pure, Result.andThen_ok, List.map_toArray, List.map_cons, List.map_nil, hs, hx, hrun]
  exact hK _ _ h

theorem one_cell {w : World} {b : Nat} {u : Value} {T : TypeId} (h : w.heap[b]? = some (.cells #[u] T)) : ∀ (j : Nat) (v : Value), [u][j]? = some v → w.cell? ((⟨b, 0, none⟩ : Addr).add j) = some v := by
  intro j v hj
  have hj0 : j = 0 := by have := (List.getElem?_eq_some_iff.1 hj).1; simpa using this
  subst hj0
  simp at hj
  subst hj
  have e1 : (⟨b, 0, none⟩ : Addr).add 0 = ⟨b, 0, none⟩ := by unfold Addr.add; split <;> simp_all
  rw [e1]
  exact cell_at h 0

set_option maxHeartbeats 4000000 in
set_option maxRecDepth 100000 in
theorem runsafe_c (w : World) (g b1 b2 n armed : Nat) (f1 f2 : Nat → List UInt8) (kept : List Int) (dead : Bool) (h : RC w g b1 b2 n f1 f2 armed kept dead) (hn : n ≤ 4096) :
    Calls Tryz.prog 18 #[.pointer (some ⟨g, 0, none⟩)] w fun e w' => ∃ a cap, e = .returned (.slice a (ul f2 n).length cap) ∧
      w'.ownsRow w.heap.size 3 1 (.slice a (ul f2 n).length cap) (ul f2 n).length (ivals (ul f2 n)) ∧ Below w.heap.size w w' := by
  have HR := hid h
  have HLO := hid h.low
  obtain ⟨i0, hi, hz0, hz1, hz2⟩ := info_parts (show (Tryz.prog.info? 3).map (fun i => (i.zero, i.size, i.bytes)) = some (some (.int .i64 0), 1, 8) by kernel_rfl)
  have HB0 := hid (show Below w.heap.size w (w.alloc (.cells #[] 3)) from (Below.refl _ w).alloc (Nat.le_refl _) _)
  have HO0 := hid (World.ownsRow_made (base := w.heap.size) (e := 3) (size := 1) w #[] 0 (Nat.le_refl _) (Nat.zero_le _) (by simp))
  clear h
  go_enter Tryz.func18, Tryz.ntmps18
  go_wp2_with fail
  go_loopw [3, 4] (fun v i wr => ∃ (k : Nat) (a : Option Addr) (cap : Nat), i = .int .i64 k ∧ k ≤ n ∧ v = .slice a (ul f2 k).length cap ∧
      Hid (wr.ownsRow w.heap.size 3 1 (.slice a (ul f2 k).length cap) (ul f2 k).length (ivals (ul f2 k))) ∧ Hid (Below w.heap.size w wr)) (fun _ i _ => n - (intOf i).toNat)
  case atStart => exact ⟨0, some ⟨w.heap.size, 0, none⟩, 0, rfl, by omega, rfl, HO0, HB0⟩
  case round =>
    obtain ⟨k, a, cap, rfl, hk, rfl, HO, HW⟩ := hrel
    have HRr := hid (HR.out.below (Nat.le_refl _) HW.out)
    obtain ⟨⟨c1, c2, kv, d1, _⟩, _, d4, _⟩ := HRr.out
    have k1 : wr.cell? ⟨g, 1, none⟩ = some (.slice (some ⟨b2, 0, none⟩) n c2) := cell_at d1 1
    have hul := ul_le f2 k
    by_cases hend : k = n
    · subst hend
      clear d1 d4
      go_wp2_with fail
      go_ret
      exact ⟨_, _, rfl, HO.out, HW.out⟩
    · have hk' : k < n := by omega
      have r2 : wr.cell? ⟨b2, k, none⟩ = some (.string (bs (f2 k))) := d4.cell hk'
      by_cases he : f2 k = []
      · have e1 := ul_none f2 k he
        rw [he] at r2
        clear d1 d4 hend
        go_wp2_with fail
        go_roundw
        case measure => simp [intOf]; omega
        refine ⟨k + 1, a, cap, rfl, by omega, by rw [e1], hid (by rw [e1]; exact HO.out), HW⟩
      · have e1 := ul_one f2 k he
        obtain ⟨y, hy⟩ : ∃ y, y = f2 k := ⟨_, rfl⟩
        rw [← hy] at r2 he
        have hy1 : y.isEmpty = false := by simpa using he
        have hbl : w.heap.size ≤ wr.heap.size := HW.out.size
        obtain ⟨v', w2, hrun, hown2, hgr2, _⟩ := run_append_own (P := Tryz.prog) (wr.alloc (.cells #[.int .i64 k] 3)) w.heap.size 38 38 3 i0 (.int .i64 0) 1 8 Tryz.underlying38 hi hz0 hz1 hz2 rfl (by decide)
          (.slice a (ul f2 k).length cap) (ul f2 k).length (ivals (ul f2 k)) (HO.out.alloc _) ⟨wr.heap.size, 0, none⟩ 1 1 [.int .i64 k] rfl (one_cell (MapKept.heap_alloc wr _).1) (by intro u hu; simp at hu; subst hu; rfl) (by unfold maxLen; omega) (by omega) (by simp; omega)
        have HW2 := hid ((HW.out.alloc hbl (.cells #[.int .i64 k] 3)).grown hgr2 (by simp; omega) (fun b hb => (HO.out.lt b hb).1))
        obtain ⟨g', cap', rfl⟩ := Joins.ownsRow_form hown2 (by omega)
        have e2 : (ul f2 (k + 1)).length = (ul f2 k).length + 1 := by rw [e1]; simp
        have e3 : ivals (ul f2 (k + 1)) = ivals (ul f2 k) ++ [.int .i64 k] := by rw [e1]; simp [ivals]
        have HO2 := hid hown2
        have E := hid (And.intro e2 e3)
        clear d1 d4 hend e1 hy hown2 hgr2 e2 e3
        go_wp2_with (at_builtin; refine wpList_append_run rfl (.tmp 23) (.tmp 25) 38 38 rfl _ _ _ _ rfl rfl hrun ?_)
        go_wp2_with fail
        all_goals (
          first | go_roundw | skip
          case measure => simp [intOf]; omega
          obtain ⟨e2, e3⟩ := E.out
          refine ⟨k + 1, some ⟨g', 0, none⟩, cap', rfl, by omega, by rw [e2], hid (by rw [e2, e3]; exact HO2.out), HW2⟩)

/-- All bytes of n strings. -/
def cat (f : Nat → List UInt8) (n : Nat) : List UInt8 := (List.range n).flatMap f
theorem cat_succ (f : Nat → List UInt8) (n : Nat) : cat f (n + 1) = cat f n ++ f n := by simp [cat, List.range_succ]
theorem cat_len (f : Nat → List UInt8) (m : Nat) : ∀ n, (∀ i, i < n → (f i).length ≤ m) → (cat f n).length ≤ m * n
  | 0, _ => by simp [cat]
  | n + 1, h => by
    have h1 := cat_len f m n (fun i hi => h i (by omega))
    have h2 := h n (by omega)
    rw [cat_succ, List.length_append, Nat.mul_succ]
    omega
theorem cat_congr {f h : Nat → List UInt8} {n : Nat} (e : ∀ i, i < n → f i = h i) : cat f n = cat h n := by
  induction n with
  | zero => rfl
  | succ n ih => rw [cat_succ, cat_succ, ih (fun i hi => e i (by omega)), e n (by omega)]
theorem cat_piece {l : List UInt8} {n : Nat} (h : l.length = 64 * n) : cat (piece l) n = l := by
  have : ∀ k, k ≤ n → cat (piece l) k = l.take (64 * k) := by
    intro k
    induction k with
    | zero => intro _; simp [cat]
    | succ k ih =>
      intro hk
      rw [cat_succ, ih (by omega), piece, Nat.mul_succ, List.take_add]
  rw [this n (Nat.le_refl _), ← h, List.take_length]

set_option maxHeartbeats 4000000 in
set_option maxRecDepth 100000 in
theorem rjoin_c (w : World) (b n cap : Nat) (f : Nat → List UInt8) (h : RowP w b n f) (hn : n ≤ 4096) (hf : ∀ i, i < n → (f i).length ≤ 64) :
    Calls Tryz.prog 60 #[.slice (some ⟨b, 0, none⟩) n cap] w fun e w' => e = .returned (.string (bs (cat f n))) ∧ Fr (fun _ => False) w w' := by
  have HR := hid h
  obtain ⟨i0, hi, hz0, hz1, hz2⟩ := info_parts (show (Tryz.prog.info? 5).map (fun i => (i.zero, i.size, i.bytes)) = some (some (.int .u8 0), 1, 1) by kernel_rfl)
  have HB0 := hid (show Below w.heap.size w (w.alloc (.cells #[] 5)) from (Below.refl _ w).alloc (Nat.le_refl _) _)
  have HO0 := hid (World.ownsRow_made (base := w.heap.size) (e := 5) (size := 1) w #[] 0 (Nat.le_refl _) (Nat.zero_le _) (by simp))
  have HF := hid hf
  clear h hf
  go_enter Tryz.func60, Tryz.ntmps60
  go_wp2_with fail
  go_loopw [3, 4] (fun v i wr => ∃ (k : Nat) (a : Option Addr) (cap : Nat), i = .int .i64 k ∧ k ≤ n ∧ v = .slice a (cat f k).length cap ∧
      Hid (wr.ownsRow w.heap.size 5 1 (.slice a (cat f k).length cap) (cat f k).length (bytesOf (cat f k))) ∧ Hid (Below w.heap.size w wr)) (fun _ i _ => n - (intOf i).toNat)
  case atStart => exact ⟨0, some ⟨w.heap.size, 0, none⟩, 0, rfl, by omega, rfl, HO0, HB0⟩
  case round =>
    obtain ⟨k, a, cap, rfl, hk, rfl, HO, HW⟩ := hrel
    have hlen := cat_len f 64 k (fun i hi => HF.out i (by omega))
    by_cases hend : k = n
    · subst hend
      have hback : (convert 60 9 (.slice a (cat f k).length cap)).run Tryz.prog wr = .ok (.string (bs (cat f k))) wr := by
        rcases HO.out.2 with ⟨h0, h1⟩ | ⟨b', cap2, cur, h0, _, hb1, _, _, _, ht⟩
        · have e0 : cat f k = [] := List.eq_nil_of_length_eq_zero h1
          injection h0 with h2 h3 h4
          subst h2
          rw [e0, run_convert_bytes_string wr 60 9 5 none _ cap Tryz.underlying60 Tryz.underlying5 Tryz.underlying9]
          have hb0 : (Conv.bytesToString (Value.slice none 0 cap)).run Tryz.prog wr = .ok (.string (bs [])) wr := by
            simp [Conv.bytesToString, loadCells, loadCellsFrom]
            try rfl
          simpa using hb0
        · injection h0 with h2 h3 h4
          subst h2
          refine run_convert_bytes_back wr 60 9 5 ⟨b', 0, none⟩ cap (cat f k) Tryz.underlying60 Tryz.underlying5 Tryz.underlying9 (fun j hj => ?_)
          exact HO.out.cells (g := b') rfl j _ (by simp [bytesOf, hj])
      go_wp2_with fail
      go_ret
      exact ⟨rfl, below_fr HW.out (Nat.le_refl _)⟩
    · have hk' : k < n := by omega
      have r2 : wr.cell? ⟨b, k, none⟩ = some (.string (bs (f k))) := (HR.out.below (Nat.le_refl _) HW.out).cell hk'
      have hl2 := HF.out k hk'
      obtain ⟨y, hy⟩ : ∃ y, y = f k := ⟨_, rfl⟩
      rw [← hy] at r2 hl2
      have hz : (bs y).size = y.length := by simp [bs, ByteArray.size]
      have hbl : w.heap.size ≤ wr.heap.size := HW.out.size
      obtain ⟨v', w2, hrun, hown2, hgr2, hnil⟩ := Lib.run_append_own_string (P := Tryz.prog) wr w.heap.size 60 9 60 5 i0 Tryz.underlying60 Tryz.underlying9 hi hz0 hz1 hz2
        (.slice a (cat f k).length cap) (cat f k).length (bytesOf (cat f k)) HO.out (bs y) (by rw [hz]; unfold maxLen; omega) (by rw [hz]; omega) hbl
      have HW2 := hid (HW.out.grown hgr2 hbl (fun b hb => (HO.out.lt b hb).1))
      have e1 : cat f (k + 1) = cat f k ++ y := by rw [cat_succ, hy]
      have e2 : (cat f (k + 1)).length = (cat f k).length + (bs y).size := by rw [e1, hz]; simp
      have e3 : bytesOf (cat f (k + 1)) = bytesOf (cat f k) ++ Lib.strCells (bs y) := by rw [e1]; simp [bytesOf, Lib.strCells]
      have E := hid (And.intro e2 e3)
      obtain ⟨a', cap', rfl⟩ : ∃ a' cap', v' = .slice a' ((cat f k).length + (bs y).size) cap' := by
        rcases hown2.2 with ⟨h0, h1⟩ | ⟨b', cap2, cur, h0, _⟩
        · exact ⟨none, 0, by rw [h0, h1]⟩
        · exact ⟨_, _, h0⟩
      have HO2 := hid hown2
      clear hend e1 hy hown2 hgr2 e2 e3 hnil hz
      go_wp2_with (at_builtin; refine wpList_append_run rfl (.tmp 12) (.tmp 16) 60 9 rfl _ _ _ _ rfl rfl hrun ?_)
      go_wp2_with fail
      all_goals (
        first | go_roundw | skip
        case measure => simp [intOf]; omega
        obtain ⟨e2, e3⟩ := E.out
        refine ⟨k + 1, a', cap', rfl, by omega, by rw [e2]; simp [bs, ByteArray.size], hid (by rw [e2, e3]; exact HO2.out), HW2⟩)

end Go.Proofs.YtjkhcfdflcndkaaGreat.D
