/-
  The document's disk: Unsafe, join. No condition beyond the disk's own.
-/
import Derived.Test.YthmnchemfigneaaGreatR1
import Derived.Lib.AppendStr
namespace Go.Proofs.YthmnchemfigneaaGreat.D
open Go.RowKit Go.Maps Go.Shelf
set_option linter.unusedVariables false
set_option linter.unusedSimpArgs false

theorem below_fr {B : Nat} {w w' : World} (hw : Below B w w') (hB : w.heap.size ≤ B) : Fr (fun _ => False) w w' := ⟨hw.os, hw.tape, hw.output, hw.size, fun i hi _ => hw.block i (Nat.lt_of_lt_of_le hi hB)⟩
theorem RC.below {w w' : World} {B g b1 b2 n armed : Nat} {f1 f2 : Nat → List UInt8} {kept : List Int} {dead : Bool} (h : RC w g b1 b2 n f1 f2 armed kept dead) (hB : w.heap.size ≤ B) (hw : Below B w w') : RC w' g b1 b2 n f1 f2 armed kept dead :=
  h.stay (below_fr hw hB)
theorem RowP.below {w w' : World} {B b n : Nat} {f : Nat → List UInt8} (h : RowP w b n f) (hB : w.heap.size ≤ B) (hw : Below B w w') : RowP w' b n f :=
  h.keep (below_fr hw hB) (fun f => f)

def ul (f2 : Nat → List UInt8) (n : Nat) : List Nat := (List.range n).filter (fun i => !(f2 i).isEmpty)
theorem ul_one (f2 : Nat → List UInt8) (n : Nat) (h : f2 n ≠ []) : ul f2 (n + 1) = ul f2 n ++ [n] := by
  unfold ul
  rw [List.range_succ, List.filter_append]
  simp [h]
theorem ul_none (f2 : Nat → List UInt8) (n : Nat) (h : f2 n = []) : ul f2 (n + 1) = ul f2 n := by
  unfold ul
  rw [List.range_succ, List.filter_append]
  simp [h]
theorem ul_le (f2 : Nat → List UInt8) (n : Nat) : (ul f2 n).length ≤ n := by
  have := List.length_filter_le (fun i => !(f2 i).isEmpty) (List.range n)
  simpa [ul] using this
def ivals (l : List Nat) : List Value := l.map (fun (i : Nat) => Value.int .i64 (i : Int))
/-- An append by its run. -/
theorem wpList_append_run {P : Program} {w : World} {ops : Array Oper} {rest : List Oper} {o : Oper} {a : Act} {Q : Exit → Act → World → Prop} (hgd : o.guard = none) (s x : Operand) (t u : TypeId)
    (ho : o.op = .call { callee := .builtin .append, args := #[s, x], argTypes := #[t, u] })
    (vs vx v' : Value) (w' : World) (hs : a.eval s = vs) (hx : a.eval x = vx) (hrun : (Builtin.append_ #[t, u] o.type #[vs, vx]).run P w = .ok v' w')
    (h : wpList P ops Q rest (a.put o.dst v') w') : wpList P ops Q (o :: rest) a w := by
  refine wpList_plain hgd fun K hK => ?_
  unfold Oper.wp execOp
  simp only [ho, resolve, invoke, builtin, Sem.run_bind, Sem.run_pure, Result.andThen_ok, List.map_toArray, List.map_cons, List.map_nil, hs, hx, hrun]
  exact hK _ _ h

theorem one_cell {w : World} {b : Nat} {u : Value} {T : TypeId} (h : w.heap[b]? = some (.cells #[u] T)) : ∀ (j : Nat) (v : Value), [u][j]? = some v → w.cell? ((⟨b, 0, none⟩ : Addr).add j) = some v := by
  intro j v hj
  have hj0 : j = 0 := by have := (List.getElem?_eq_some_iff.1 hj).1; simpa using this
  subst hj0
  simp at hj
  subst hj
  have e1 : (⟨b, 0, none⟩ : Addr).add 0 = ⟨b, 0, none⟩ := by unfold Addr.add; split <;> simp_all
  rw [e1]
  exact cell_at h 0

set_option maxHeartbeats 4000000 in
set_option maxRecDepth 100000 in
theorem runsafe_c (w : World) (g b1 b2 n armed : Nat) (f1 f2 : Nat → List UInt8) (kept : List Int) (dead : Bool) (h : RC w g b1 b2 n f1 f2 armed kept dead) (hn : n ≤ 4096) :
    Calls Tryz.prog 72 #[.pointer (some ⟨g, 0, none⟩)] w fun e w' => ∃ a cap, e = .returned (.slice a (ul f2 n).length cap) ∧
      w'.ownsRow w.heap.size 3 1 (.slice a (ul f2 n).length cap) (ul f2 n).length (ivals (ul f2 n)) ∧ Below w.heap.size w w' := by
  have HR := hid h
  have HLO := hid h.low
  obtain ⟨i0, hi, hz0, hz1, hz2⟩ := info_parts (show (Tryz.prog.info? 3).map (fun i => (i.zero, i.size, i.bytes)) = some (some (.int .i64 0), 1, 8) by kernel_rfl)
  have HB0 := hid (show Below w.heap.size w (w.alloc (.cells #[] 3)) from (Below.refl _ w).alloc (Nat.le_refl _) _)
  have HO0 := hid (World.ownsRow_made (base := w.heap.size) (e := 3) (size := 1) w #[] 0 (Nat.le_refl _) (Nat.zero_le _) (by simp))
  clear h
  go_enter Tryz.func72, Tryz.ntmps72
  go_wp2_with fail
  go_loopw [3, 4] (fun v i wr => ∃ (k : Nat) (a : Option Addr) (cap : Nat), i = .int .i64 k ∧ k ≤ n ∧ v = .slice a (ul f2 k).length cap ∧
      Hid (wr.ownsRow w.heap.size 3 1 (.slice a (ul f2 k).length cap) (ul f2 k).length (ivals (ul f2 k))) ∧ Hid (Below w.heap.size w wr)) (fun _ i _ => n - (intOf i).toNat)
  case atStart => exact ⟨0, some ⟨w.heap.size, 0, none⟩, 0, rfl, by omega, rfl, HO0, HB0⟩
  case round =>
    obtain ⟨k, a, cap, rfl, hk, rfl, HO, HW⟩ := hrel
    have HRr := hid (HR.out.below (Nat.le_refl _) HW.out)
    obtain ⟨⟨c1, c2, kv, d1, _⟩, _, d4, _⟩ := HRr.out
    have k1 : wr.cell? ⟨g, 1, none⟩ = some (.slice (some ⟨b2, 0, none⟩) n c2) := cell_at d1 1
    have hul := ul_le f2 k
    by_cases hend : k = n
    · subst hend
      clear d1 d4
      go_wp2_with fail
      go_ret
      exact ⟨_, _, rfl, HO.out, HW.out⟩
    · have hk' : k < n := by omega
      have r2 : wr.cell? ⟨b2, k, none⟩ = some (.string (bs (f2 k))) := d4.cell hk'
      by_cases he : f2 k = []
      · have e1 := ul_none f2 k he
        rw [he] at r2
        clear d1 d4 hend
        go_wp2_with fail
        go_roundw
        case measure => simp [intOf]; omega
        refine ⟨k + 1, a, cap, rfl, by omega, by rw [e1], hid (by rw [e1]; exact HO.out), HW⟩
      · have e1 := ul_one f2 k he
        obtain ⟨y, hy⟩ : ∃ y, y = f2 k := ⟨_, rfl⟩
        rw [← hy] at r2 he
        have hy1 : y.isEmpty = false := by simpa using he
        have hbl : w.heap.size ≤ wr.heap.size := HW.out.size
        obtain ⟨v', w2, hrun, hown2, hgr2, _⟩ := run_append_own (P := Tryz.prog) (wr.alloc (.cells #[.int .i64 k] 3)) w.heap.size 37 37 3 i0 (.int .i64 0) 1 8 Tryz.underlying37 hi hz0 hz1 hz2 rfl (by decide)
          (.slice a (ul f2 k).length cap) (ul f2 k).length (ivals (ul f2 k)) (HO.out.alloc _) ⟨wr.heap.size, 0, none⟩ 1 1 [.int .i64 k] rfl (one_cell (MapKept.heap_alloc wr _).1) (by intro u hu; simp at hu; subst hu; rfl) (by unfold maxLen; omega) (by omega) (by simp; omega)
        have HW2 := hid ((HW.out.alloc hbl (.cells #[.int .i64 k] 3)).grown hgr2 (by simp; omega) (fun b hb => (HO.out.lt b hb).1))
        obtain ⟨g', cap', rfl⟩ := Joins.ownsRow_form hown2 (by omega)
        have e2 : (ul f2 (k + 1)).length = (ul f2 k).length + 1 := by rw [e1]; simp
        have e3 : ivals (ul f2 (k + 1)) = ivals (ul f2 k) ++ [.int .i64 k] := by rw [e1]; simp [ivals]
        have HO2 := hid hown2
        have E := hid (And.intro e2 e3)
        clear d1 d4 hend e1 hy hown2 hgr2 e2 e3
        go_wp2_with (at_builtin; refine wpList_append_run rfl (.tmp 23) (.tmp 25) 37 37 rfl _ _ _ _ rfl rfl hrun ?_)
        go_wp2_with fail
        all_goals (
          first | go_roundw | skip
          case measure => simp [intOf]; omega
          obtain ⟨e2, e3⟩ := E.out
          refine ⟨k + 1, some ⟨g', 0, none⟩, cap', rfl, by omega, by rw [e2], hid (by rw [e2, e3]; exact HO2.out), HW2⟩)

/-- All bytes of n strings. -/
def cat (f : Nat → List UInt8) (n : Nat) : List UInt8 := (List.range n).flatMap f
theorem cat_succ (f : Nat → List UInt8) (n : Nat) : cat f (n + 1) = cat f n ++ f n := by simp [cat, List.range_succ]
theorem cat_len (f : Nat → List UInt8) (m : Nat) : ∀ n, (∀ i, i < n → (f i).length ≤ m) → (cat f n).length ≤ m * n
  | 0, _ => by simp [cat]
  | n + 1, h => by
    have h1 := cat_len f m n (fun i hi => h i (by omega))
    have h2 := h n (by omega)
    rw [cat_succ, List.length_append, Nat.mul_succ]
    omega
theorem cat_congr {f h : Nat → List UInt8} {n : Nat} (e : ∀ i, i < n → f i = h i) : cat f n = cat h n := by
  induction n with
  | zero => rfl
  | succ n ih => rw [cat_succ, cat_succ, ih (fun i hi => e i (by omega)), e n (by omega)]
theorem cat_piece {l : List UInt8} {n : Nat} (h : l.length = 64 * n) : cat (piece l) n = l := by
  have : ∀ k, k ≤ n → cat (piece l) k = l.take (64 * k) := by
    intro k
    induction k with
    | zero => intro _; simp [cat]
    | succ k ih =>
      intro hk
      rw [cat_succ, ih (by omega), piece, Nat.mul_succ, List.take_add]
  rw [this n (Nat.le_refl _), ← h, List.take_length]

set_option maxHeartbeats 4000000 in
set_option maxRecDepth 100000 in
theorem rjoin_c (w : World) (b n cap : Nat) (f : Nat → List UInt8) (h : RowP w b n f) (hn : n ≤ 4096) (hf : ∀ i, i < n → (f i).length ≤ 64) :
    Calls Tryz.prog 53 #[.slice (some ⟨b, 0, none⟩) n cap] w fun e w' => e = .returned (.string (bs (cat f n))) ∧ Fr (fun _ => False) w w' := by
  have HR := hid h
  obtain ⟨i0, hi, hz0, hz1, hz2⟩ := info_parts (show (Tryz.prog.info? 5).map (fun i => (i.zero, i.size, i.bytes)) = some (some (.int .u8 0), 1, 1) by kernel_rfl)
  have HB0 := hid (show Below w.heap.size w (w.alloc (.cells #[] 5)) from (Below.refl _ w).alloc (Nat.le_refl _) _)
  have HO0 := hid (World.ownsRow_made (base := w.heap.size) (e := 5) (size := 1) w #[] 0 (Nat.le_refl _) (Nat.zero_le _) (by simp))
  have HF := hid hf
  clear h hf
  go_enter Tryz.func53, Tryz.ntmps53
  go_wp2_with fail
  go_loopw [3, 4] (fun v i wr => ∃ (k : Nat) (a : Option Addr) (cap : Nat), i = .int .i64 k ∧ k ≤ n ∧ v = .slice a (cat f k).length cap ∧
      Hid (wr.ownsRow w.heap.size 5 1 (.slice a (cat f k).length cap) (cat f k).length (bytesOf (cat f k))) ∧ Hid (Below w.heap.size w wr)) (fun _ i _ => n - (intOf i).toNat)
  case atStart => exact ⟨0, some ⟨w.heap.size, 0, none⟩, 0, rfl, by omega, rfl, HO0, HB0⟩
  case round =>
    obtain ⟨k, a, cap, rfl, hk, rfl, HO, HW⟩ := hrel
    have hlen := cat_len f 64 k (fun i hi => HF.out i (by omega))
    by_cases hend : k = n
    · subst hend
      have hback : (convert 54 9 (.slice a (cat f k).length cap)).run Tryz.prog wr = .ok (.string (bs (cat f k))) wr := by
        rcases HO.out.2 with ⟨h0, h1⟩ | ⟨b', cap2, cur, h0, _, hb1, _, _, _, ht⟩
        · have e0 : cat f k = [] := List.eq_nil_of_length_eq_zero h1
          injection h0 with h2 h3 h4
          subst h2
          rw [e0, run_convert_bytes_string wr 54 9 5 none _ cap Tryz.underlying54 Tryz.underlying5 Tryz.underlying9]
          have hb0 : (Conv.bytesToString (Value.slice none 0 cap)).run Tryz.prog wr = .ok (.string (bs [])) wr := by
            simp [Conv.bytesToString, loadCells, loadCellsFrom]
            try rfl
          simpa using hb0
        · injection h0 with h2 h3 h4
          subst h2
          refine run_convert_bytes_back wr 54 9 5 ⟨b', 0, none⟩ cap (cat f k) Tryz.underlying54 Tryz.underlying5 Tryz.underlying9 (fun j hj => ?_)
          exact HO.out.cells (g := b') rfl j _ (by simp [bytesOf, hj])
      go_wp2_with fail
      go_ret
      exact ⟨rfl, below_fr HW.out (Nat.le_refl _)⟩
    · have hk' : k < n := by omega
      have r2 : wr.cell? ⟨b, k, none⟩ = some (.string (bs (f k))) := (HR.out.below (Nat.le_refl _) HW.out).cell hk'
      have hl2 := HF.out k hk'
      obtain ⟨y, hy⟩ : ∃ y, y = f k := ⟨_, rfl⟩
      rw [← hy] at r2 hl2
      have hz : (bs y).size = y.length := by simp [bs, ByteArray.size]
      have hbl : w.heap.size ≤ wr.heap.size := HW.out.size
      obtain ⟨v', w2, hrun, hown2, hgr2, hnil⟩ := Lib.run_append_own_string (P := Tryz.prog) wr w.heap.size 54 9 54 5 i0 Tryz.underlying54 Tryz.underlying9 hi hz0 hz1 hz2
        (.slice a (cat f k).length cap) (cat f k).length (bytesOf (cat f k)) HO.out (bs y) (by rw [hz]; unfold maxLen; omega) (by rw [hz]; omega) hbl
      have HW2 := hid (HW.out.grown hgr2 hbl (fun b hb => (HO.out.lt b hb).1))
      have e1 : cat f (k + 1) = cat f k ++ y := by rw [cat_succ, hy]
      have e2 : (cat f (k + 1)).length = (cat f k).length + (bs y).size := by rw [e1, hz]; simp
      have e3 : bytesOf (cat f (k + 1)) = bytesOf (cat f k) ++ Lib.strCells (bs y) := by rw [e1]; simp [bytesOf, Lib.strCells]
      have E := hid (And.intro e2 e3)
      obtain ⟨a', cap', rfl⟩ : ∃ a' cap', v' = .slice a' ((cat f k).length + (bs y).size) cap' := by
        rcases hown2.2 with ⟨h0, h1⟩ | ⟨b', cap2, cur, h0, _⟩
        · exact ⟨none, 0, by rw [h0, h1]⟩
        · exact ⟨_, _, h0⟩
      have HO2 := hid hown2
      clear hend e1 hy hown2 hgr2 e2 e3 hnil hz
      go_wp2_with (at_builtin; refine wpList_append_run rfl (.tmp 12) (.tmp 16) 54 9 rfl _ _ _ _ rfl rfl hrun ?_)
      go_wp2_with fail
      all_goals (
        first | go_roundw | skip
        case measure => simp [intOf]; omega
        obtain ⟨e2, e3⟩ := E.out
        refine ⟨k + 1, a', cap', rfl, by omega, by rw [e2]; simp [bs, ByteArray.size], hid (by rw [e2, e3]; exact HO2.out), HW2⟩)

end Go.Proofs.YthmnchemfigneaaGreat.D
