/-
  The document's answer's New. No condition.
-/
import Derived.Test.YtjkhcfdflcndkaaGreatKO05
import Derived.Deep.RegionLaw
import Derived.Lib.SmallJoins
import Derived.Laws.CopyRow
namespace Go.Proofs.YtjkhcfdflcndkaaGreat.D
open Go.RowKit Go.Maps Go.Shelf
set_option linter.unusedVariables false
set_option linter.unusedSimpArgs false

/-- The document's disk: of each sector its safe bytes, its written ones (none: it is safe). -/
structure RSt where
  safe : List (List UInt8)
  written : List (List UInt8)
  armed : Nat
  kept : List Int
  dead : Bool

def strs (l : List (List UInt8)) : List Value := l.map (fun x => Value.string (bs x))

structure RAt (w : World) (B g : Nat) (r : RSt) : Prop where
  low : B ≤ g
  cells : ∃ sv wv kv, w.heap[g]? = some (.cells #[sv, wv, .int .i64 r.armed, kv, .bool r.dead] 84) ∧ w.ownsRow B 9 1 sv r.safe.length (strs r.safe) ∧ w.ownsRow B 9 1 wv r.written.length (strs r.written) ∧
    (∀ b, sv.ownBlock = some b → wv.ownBlock ≠ some b) ∧ IntsAt w kv r.kept

/-- The sectors of bytes. -/
def chunk (l : List UInt8) (i : Nat) : List UInt8 := (l.drop (64 * i)).take 64
def chunks (l : List UInt8) (k : Nat) : List (List UInt8) := (List.range k).map (chunk l)

theorem rnew_bad (w : World) (l : List UInt8) (hl : ¬ IsImage l) (hlen : l.length ≤ 281474976710656) :
    Calls Tryz.prog 42 #[.string (bs l)] w fun e w' => e = .returned (.tuple #[.pointer none, .int .i64 170]) ∧ w' = w := by
  have HL := hid hl
  clear hl
  by_cases h1 : (l.length : Int) / 64 < 1
  · go_enter Tryz.func42, Tryz.ntmps42
    go_wp2_with fail
    go_ret2
    exact ⟨rfl, rfl⟩
  by_cases h2 : 4096 < (l.length : Int) / 64
  · go_enter Tryz.func42, Tryz.ntmps42
    go_wp2_with fail
    go_ret2
    exact ⟨rfl, rfl⟩
  have h3 : ((l.length : Int) / 64 * 64 != (l.length : Int)) = true := by
    have h4 : l.length % 64 ≠ 0 := fun e => HL.out ⟨by omega, e, by omega⟩
    simp; omega
  go_enter Tryz.func42, Tryz.ntmps42
  go_wp2_with fail
  go_ret2
  exact ⟨rfl, rfl⟩

theorem mk_strs (n : Nat) (hn : n ≤ 4096) (w : World) :
    (Instr.makeSlice 79 (.int .i64 (n : Int)) (.int .i64 (n : Int))).run Tryz.prog w = .ok (.slice (some ⟨w.heap.size, 0, none⟩) n n) (w.alloc (.cells (strs (List.replicate n [])).toArray 9)) := by
  have h := run_make_row' (P := Tryz.prog) 79 9 (.string (bs [])) 16 Tryz.underlying79 (by kernel_rfl) rfl .i64 .i64 n (by omega) (by omega) w
  rw [h]
  have e : madeCells #[Value.string (bs [])] n = (strs (List.replicate n [])).toArray := by
    apply Array.ext
    · simp [madeCells, strs]
    · intro i h1 h2
      have e0 : i % 1 = 0 := by omega
      simp [madeCells, strs, e0]
  rw [e]

/-- An append, as one step of a region that draws its order, by its run. -/
theorem step_append_run {P : Program} {ops : Array Oper} {o : Oper} {a : Act} {w : World} {K : Act → World → Prop} {Q : Exit → Act → World → Prop} {E : Prop}
    (hg : o.guard = none) (s x : Operand) (t : TypeId) (hop : o.op = Op.call { callee := Callee.builtin Builtin.append, args := #[s, x], argTypes := #[t, t] })
    (vs vx v' : Value) (w' : World) (hs : a.eval s = vs) (hx : a.eval x = vx) (hrun : (Builtin.append_ #[t, t] o.type #[vs, vx]).run P w = .ok v' w')
    (hK : K (a.put o.dst v') w') : if Region.wanted o (yielded ops a.tmps) = true then Oper.wp P o a w K Q else E := by
  have hw : Region.wanted o (yielded ops a.tmps) = true := by simp [Region.wanted, hg]
  rw [if_pos hw]
  unfold Oper.wp
  simp [execOp, hop, resolve, invoke, builtin, hs, hx, hrun, Result.andThen]
  exact hK

theorem row_apart {w : World} {B g n : Nat} {v : Value} {xs : List Value} {c : Array Value} {T e : TypeId} (h : w.ownsRow B e 1 v n xs) (hg : w.heap[g]? = some (.cells c T)) (hne : T ≠ e) : v.ownBlock ≠ some g := by
  rcases h.2 with ⟨rfl, _⟩ | ⟨b, cap, cur, rfl, _, hb, _⟩
  · simp [Value.ownBlock]
  · intro e1
    simp [Value.ownBlock] at e1
    subst e1
    rw [hg] at hb
    cases hb
    exact hne rfl

set_option maxHeartbeats 4000000 in
set_option maxRecDepth 100000 in
theorem rnew_c (w : World) (l : List UInt8) (hl : IsImage l) :
    Calls Tryz.prog 42 #[.string (bs l)] w fun e w' => ∃ g, e = .returned (.tuple #[.pointer (some ⟨g, 0, none⟩), .int .i64 0]) ∧
      RAt w' w.heap.size g { safe := chunks l (l.length / 64), written := List.replicate (l.length / 64) [], armed := 0, kept := [], dead := false } ∧ Below w.heap.size w w' := by
  obtain ⟨h1, h2, h3⟩ := hl
  obtain ⟨n, hn⟩ : ∃ n, n = l.length / 64 := ⟨_, rfl⟩
  have e1 : (l.length : Int) / 64 = n := by omega
  have e2 : (n : Int) * 64 = l.length := by omega
  have e3 : ((n : Int) * 64 != (l.length : Int)) = false := by simp; omega
  have hn1 : 1 ≤ n := by omega
  have hn2 : n ≤ 4096 := by omega
  have HL := hid (show l.length = 64 * n by omega)
  rw [← hn]
  have d1 : decide ((n : Int) < 1) = false := decide_eq_false (by omega)
  have d2 : decide (4096 < (n : Int)) = false := decide_eq_false (by omega)
  have HNEW := hid (MapKept.heap_alloc w (.cells #[.slice none 0 0, .slice none 0 0, .int .i64 0, .slice none 0 0, .bool false] 84)).1
  have HB0 := hid (show Below w.heap.size w (w.alloc (.cells #[.slice none 0 0, .slice none 0 0, .int .i64 0, .slice none 0 0, .bool false] 84)) from (Below.refl _ w).alloc (Nat.le_refl _) _)
  obtain ⟨i0, hi, hz0, hz1, hz2⟩ := info_parts (show (Tryz.prog.info? 9).map (fun i => (i.zero, i.size, i.bytes)) = some (some (.string (bs [])), 1, 16) by kernel_rfl)
  clear h1 h2 hn
  go_enter Tryz.func42, Tryz.ntmps42
  go_wp2_with fail
  go_loopw [6] (fun v wr => ∃ (k : Nat) (a : Option Addr) (cap : Nat), v = .int .i64 k ∧ k ≤ n ∧ Hid (wr.heap[w.heap.size]? = some (.cells #[.slice a k cap, .slice none 0 0, .int .i64 0, .slice none 0 0, .bool false] 84)) ∧
      Hid (wr.ownsRow w.heap.size 9 1 (.slice a k cap) k (strs (chunks l k))) ∧ Hid (Below w.heap.size w wr)) (fun i _ => n - (intOf i).toNat)
  case atStart => exact ⟨0, none, 0, rfl, by omega, HNEW, hid (World.ownsRow_nil _ _ _ _), HB0⟩
  case round =>
    obtain ⟨k, a, cap, rfl, hk, HG, HO, HW⟩ := hrel
    by_cases hend : k = n
    · subst hend
      have hmk := mk_strs k (by omega) wr
      have hbl : w.heap.size < wr.heap.size := lt_of_at HG.out
      have HNR := hid (MapKept.heap_alloc wr (.cells (strs (List.replicate k [])).toArray 9)).1
      have hg1 : (wr.alloc (.cells (strs (List.replicate k [])).toArray 9)).heap[w.heap.size]? = some (.cells #[.slice a k cap, .slice none 0 0, .int .i64 0, .slice none 0 0, .bool false] 84) := (Below.heap_alloc _ _ _ hbl).trans HG.out
      have c1 : (wr.alloc (.cells (strs (List.replicate k [])).toArray 9)).cell? ⟨w.heap.size, 1, none⟩ = some (.slice none 0 0) := cell_at hg1 1
      have f1 : (wr.alloc (.cells (strs (List.replicate k [])).toArray 9)).frozen? ⟨w.heap.size, 1, none⟩ = false := frozen_at hg1 1
      have HG1 := hid hg1
      have HO1 := hid (HO.out.alloc (.cells (strs (List.replicate k [])).toArray 9))
      have HW1 := hid (HW.out.alloc (Nat.le_of_lt hbl) (.cells (strs (List.replicate k [])).toArray 9))
      clear hg1
      go_wp2_with fail
      go_ret2
      have hgs := Lib.grownBy_setCell (wr.alloc (.cells (strs (List.replicate k [])).toArray 9)) w.heap.size 1 (.slice (some ⟨wr.heap.size, 0, none⟩) k k)
      have hls : (strs (List.replicate k [])).length = k := by simp [strs]
      have hlc : (chunks l k).length = k := by simp [chunks]
      rw [← World.setCell_alloc_past _ _ _ _ hbl]
      refine ⟨w.heap.size, rfl, ⟨Nat.le_refl _, .slice a k cap, .slice (some ⟨wr.heap.size, 0, none⟩) k k, .slice none 0 0, set_at HG1.out 1 _, ?_, ?_, ?_, ⟨none, 0, rfl, by simp, Or.inl rfl, fun x hx => by cases hx⟩⟩, HW1.out.setCell (p := ⟨w.heap.size, 1, none⟩) (Nat.le_refl _) _⟩
      · simp only [hlc]
        exact HO1.out.kept hgs (Or.inr (row_apart HO1.out HG1.out (by decide)))
      · simp only [List.length_replicate]
        refine ⟨by rw [hls]; omega, Or.inr ⟨wr.heap.size, k, _, rfl, Nat.le_of_lt hbl, (hgs.block _ (by simp) (by simp; omega)).trans HNR.out, Nat.le_refl _, by unfold maxLen; omega, by simp [hls], ?_⟩⟩
        rw [List.take_of_length_le (by simp [hls])]
      · intro b hb
        simp only [Value.ownBlock]
        rcases HO.out.2 with ⟨h0, _⟩ | ⟨b', cap2, cur, h0, _, hb1, _⟩
        · rw [h0] at hb; simp [Value.ownBlock] at hb
        · rw [h0] at hb
          simp [Value.ownBlock] at hb
          have := lt_of_at hb1
          intro e
          simp at e
          omega
    · have hk' : k < n := by omega
      have hbl : w.heap.size < wr.heap.size := lt_of_at HG.out
      obtain ⟨C, hC⟩ : ∃ C, C = chunk l k := ⟨_, rfl⟩
      have hsl := slice_str (P := Tryz.prog) 9 Tryz.underlying9 wr.drew l (64 * (k : Int)) (64 * (k : Int) + 64) (by omega) (by omega) (by have := HL.out; omega)
      have x1 : (64 * (k : Int)).toNat = 64 * k := by omega
      have x2 : (64 * (k : Int) + 64).toNat - 64 * k = 64 := by omega
      rw [x1, x2, show (l.drop (64 * k)).take 64 = C from hC.symm] at hsl
      have y1 : IntKind.i64.wrap (64 * (k : Int)) = 64 * (k : Int) := by rw [IntKind.wrap_i64]; omega
      have y2 : IntKind.i64.wrap (64 * (k : Int) + 64) = 64 * (k : Int) + 64 := by rw [IntKind.wrap_i64]; omega
      have hnew := (MapKept.heap_alloc wr (.cells #[.string (bs C)] 9)).1
      have c0 : wr.cell? ⟨w.heap.size, 0, none⟩ = some (.slice a k cap) := cell_at HG.out 0
      have c1 : (wr.alloc (.cells #[.string (bs C)] 9)).cell? ⟨w.heap.size, 0, none⟩ = some (.slice a k cap) := by rw [World.cell?_alloc_past _ _ _ hbl]; exact c0
      obtain ⟨v', w2, hrun, hown2, hgr2, _⟩ := run_append_own (P := Tryz.prog) ((wr.alloc (.cells #[.string (bs C)] 9)).drew) w.heap.size 79 79 9 i0 (.string (bs [])) 1 16 Tryz.underlying79 hi hz0 hz1 hz2 rfl (by decide)
        (.slice a k cap) k (strs (chunks l k)) ((HO.out.alloc _).drew) ⟨wr.heap.size, 0, none⟩ 1 1 [.string (bs C)] rfl (by
          intro j u hj
          have hj0 : j = 0 := by have := (List.getElem?_eq_some_iff.1 hj).1; simpa using this
          subst hj0
          simp at hj
          subst hj
          have e1 : (⟨wr.heap.size, 0, none⟩ : Addr).add 0 = ⟨wr.heap.size, 0, none⟩ := by unfold Addr.add; split <;> simp_all
          rw [e1]
          exact cell_at hnew 0) (by intro u hu; simp at hu; subst hu; rfl) (by unfold maxLen; omega) (by omega) (by show w.heap.size ≤ (wr.alloc _).heap.size; simp; omega)
      have HC := hid hC
      have hap := row_apart HO.out HG.out (by decide)
      have hg2 : w2.heap[w.heap.size]? = some (.cells #[.slice a k cap, .slice none 0 0, .int .i64 0, .slice none 0 0, .bool false] 84) := by
        refine (hgr2.block _ (by show w.heap.size < (wr.alloc _).heap.size; simp; omega) (fun e => hap e.symm)).trans ?_
        show (wr.alloc _).heap[w.heap.size]? = _
        rw [Below.heap_alloc _ _ _ hbl]
        exact HG.out
      have c2 : w2.cell? ⟨w.heap.size, 0, none⟩ = some (.slice a k cap) := cell_at hg2 0
      have f2 : w2.frozen? ⟨w.heap.size, 0, none⟩ = false := frozen_at hg2 0
      obtain ⟨g', cap', rfl⟩ := Joins.ownsRow_form hown2 (by omega)
      have HG2 := hid hg2
      have HO2 := hid hown2
      have HW2 := hid (((HW.out.alloc (Nat.le_of_lt hbl) (.cells #[.string (bs C)] 9)).drew).grown hgr2 (by show w.heap.size ≤ (wr.alloc _).heap.size; simp; omega) (fun b hb => by
        rcases HO.out.2 with ⟨h0, _⟩ | ⟨b', cap2, cur, h0, hb1, _⟩
        · rw [h0] at hb; simp [Value.ownBlock] at hb
        · rw [h0] at hb; simp [Value.ownBlock] at hb; omega))
      clear x1 x2 hend hnew hC hown2 hgr2 hap hg2
      go_wp2_with fail
      go_region_law (refine step_append_run rfl (.tmp 34) (.tmp 42) 79 rfl _ _ _ _ (by simp [Act.eval, Act.put]) (by simp [Act.eval, Act.put]) hrun ?_)
      all_goals (
        go_wp2_with fail
        go_roundw
        case measure => simp [intOf]; omega
        refine ⟨k + 1, some ⟨g', 0, none⟩, cap', rfl, by omega, hid ?_, hid ?_, hid ?_⟩
        · exact set_at HG2.out 0 _
        · have h7 := HO2.out
          have e7 : strs (chunks l (k + 1)) = strs (chunks l k) ++ [.string (bs C)] := by simp [strs, chunks, List.range_succ, ← HC.out]
          rw [e7]
          exact h7.kept (Lib.grownBy_setCell _ _ 0 _) (Or.inr (row_apart h7 HG2.out (by decide)))
        · exact HW2.out.setCell (p := ⟨w.heap.size, 0, none⟩) (Nat.le_refl _) _)

end Go.Proofs.YtjkhcfdflcndkaaGreat.D

/-
  For the laws over scripts: rows of strings, a script's records, how many unsafe sectors lie ahead. No condition.
-/
namespace Go.Proofs.YtjkhcfdflcndkaaGreat.D
open Go.RowKit Go.Maps Go.Shelf
set_option linter.unusedVariables false
set_option linter.unusedSimpArgs false

/-- A row of N strings. -/
def rowOf (f : Nat → List UInt8) (N : Nat) : List Value := (List.range N).map (fun i => Value.string (bs (f i)))
theorem rowOf_length (f : Nat → List UInt8) (N : Nat) : (rowOf f N).length = N := by simp [rowOf]
theorem rowOf_get {f : Nat → List UInt8} {N i : Nat} (hi : i < N) : (rowOf f N)[i]? = some (.string (bs (f i))) := by simp [rowOf, hi]
theorem rowOf_congr {f h : Nat → List UInt8} {N : Nat} (e : ∀ i, i < N → f i = h i) : rowOf f N = rowOf h N := by
  unfold rowOf
  exact List.map_congr_left fun i hi => by rw [e i (List.mem_range.1 hi)]

def RowIs (w : World) (b N : Nat) (f : Nat → List UInt8) : Prop := w.heap[b]? = some (.cells (rowOf f N).toArray 9)

theorem RowIs.cell {w : World} {b N i : Nat} {f : Nat → List UInt8} (h : RowIs w b N f) (hi : i < N) : w.cell? ⟨b, i, none⟩ = some (.string (bs (f i))) := by
  rw [cell_at h]
  simpa using rowOf_get (f := f) hi
theorem RowIs.congr {w : World} {b N : Nat} {f h : Nat → List UInt8} (hr : RowIs w b N f) (e : ∀ i, i < N → f i = h i) : RowIs w b N h := by
  unfold RowIs at *
  rw [← rowOf_congr e]
  exact hr
theorem RowIs.keep {S : Nat → Prop} {w w' : World} {b N : Nat} {f : Nat → List UInt8} (h : RowIs w b N f) (hf : Fr S w w') (hn : ¬ S b) : RowIs w' b N f := hf.at h hn

theorem RowIs.set {w : World} {b N j : Nat} {f : Nat → List UInt8} (h : RowIs w b N f) (l : List UInt8) : RowIs (w.setCell ⟨b, j, none⟩ (.string (bs l))) b N (fun i => if i = j then l else f i) := by
  unfold RowIs
  rw [set_at h]
  congr 2
  apply Array.ext'
  apply List.ext_getElem?
  intro i
  simp only [List.setIfInBounds_toArray, List.getElem?_set, rowOf_length]
  by_cases hi : i < N
  · rw [rowOf_get hi]
    by_cases hj : j = i
    · subst hj
      rw [if_pos rfl, if_pos hi, rowOf_get hi]
      simp
    · rw [if_neg hj, rowOf_get hi, if_neg (fun e => hj e.symm)]
  · rw [List.getElem?_eq_none (by rw [rowOf_length]; omega)]
    rw [List.getElem?_eq_none (l := rowOf (fun i => if i = j then l else f i) N) (by rw [rowOf_length]; omega)]
    by_cases hj : j = i
    · rw [if_pos hj, if_neg (by omega)]
    · rw [if_neg hj]

theorem row_ne {w : World} {g bm b N : Nat} {s : St} {f : Nat → List UInt8} (h : At w g bm s) (hb : RowIs w b N f) : b ≠ g ∧ b ≠ bm := by
  obtain ⟨⟨kv, h1, _⟩, m, D, ⟨es, clock, h2, _⟩, _⟩ := h
  unfold RowIs at hb
  constructor
  · rintro rfl
    rw [h1] at hb
    injection hb with hb
    injection hb with _ e2
    exact absurd e2 (by decide)
  · rintro rfl; rw [h2] at hb; cases hb

/-- A disk stays while a row of strings is written. -/
theorem At.rowKeep {w w' : World} {g bm b N : Nat} {s : St} {f : Nat → List UInt8} (h : At w g bm s) (hb : RowIs w b N f) (hf : Fr (· = b) w w') : At w' g bm s := by
  obtain ⟨n1, n2⟩ := row_ne h hb
  refine h.keep hf (fun e => n1 e.symm) (fun e => n2 e.symm) (fun b' cur hb' e => ?_)
  subst e
  unfold RowIs at hb
  rw [hb'] at hb
  injection hb with hb
  injection hb with _ e2
  exact absurd e2 (by decide)

/-- copy of a whole row onto another one. -/
theorem copy_rows {w : World} {b c N : Nat} {f h : Nat → List UInt8} (hb : RowIs w b N f) (hc : RowIs w c N h) (ty : TypeId) :
    ∃ w', (Builtin.copy_ #[79, 79] ty #[.slice (some ⟨b, 0, none⟩) N N, .slice (some ⟨c, 0, none⟩) N N]).run Tryz.prog w = .ok (goInt N) w' ∧ RowIs w' b N h ∧ Fr (· = b) w w' := by
  have hl : (rowOf h N).length = N := rowOf_length h N
  have hl2 : (rowOf f N).length = N := rowOf_length f N
  have hr := run_copy_row (P := Tryz.prog) w 79 79 ty 9 b 0 N N ⟨c, 0, none⟩ N N (rowOf f N).toArray 9 (rowOf h N) Tryz.underlying79 (by kernel_rfl) hb (by rw [hl]; exact (Nat.min_self N).symm)
    (fun j v hj => by
      have hj' : j < N := by have := (List.getElem?_eq_some_iff.1 hj).1; rwa [hl] at this
      have e1 : (⟨c, 0, none⟩ : Addr).add j = ⟨c, j, none⟩ := by unfold Addr.add; split <;> simp_all
      rw [e1, hc.cell hj', ← hj, rowOf_get hj'])
    (by rw [hl, Nat.zero_add]; show N ≤ (rowOf f N).toArray.size; rw [List.size_toArray, hl2]; exact Nat.le_refl _) (by
      intro v hv
      simp only [rowOf, List.mem_map] at hv
      obtain ⟨i, _, rfl⟩ := hv
      rfl)
  rw [hl] at hr
  refine ⟨_, hr, ?_, ?_⟩
  · have hh := setRow_heap w b _ (((rowOf f N).toArray.toList.take 0 ++ rowOf h N ++ (rowOf f N).toArray.toList.drop (0 + N)).toArray) _ _ hb
    have e : ((rowOf f N).toArray.toList.take 0 ++ rowOf h N ++ (rowOf f N).toArray.toList.drop (0 + N)) = rowOf h N := by
      rw [Nat.zero_add, List.take_zero, List.nil_append, List.drop_of_length_le (by show (rowOf f N).length ≤ N; rw [hl2]; exact Nat.le_refl _), List.append_nil]
    rw [e] at hh
    unfold RowIs
    rw [← hh, e]
  · refine ⟨rfl, rfl, rfl, by simp [World.setRow], fun i hi hn => ?_⟩
    simp only [World.setRow, Array.getElem?_modify]
    rw [if_neg (fun e => hn e.symm)]
  /-, List.take_zero, List.nil_append, List.drop_of_length_le (by show (rowOf f N).length ≤ N; rw [hl2]; exact Nat.le_refl _), List.append_nil]
  · refine ⟨rfl, rfl, rfl, by simp [World.setRow], fun i hi hn => ?_⟩
    simp only [World.setRow, Array.getElem?_modify]
    rw [if_neg (fun e => hn e.symm)] -/

/-- The k-th of the unsafe sectors has k ahead of it. -/
theorem cnt_get (un : Nat → Option (List UInt8)) : ∀ (n k x : Nat), ((List.range n).filter (fun i => (un i).isSome))[k]? = some x → cnt un x = k ∧ x < n ∧ (un x).isSome = true
  | 0, k, x, h => by simp at h
  | n + 1, k, x, h => by
    rw [List.range_succ, List.filter_append] at h
    by_cases hk : k < ((List.range n).filter (fun i => (un i).isSome)).length
    · rw [List.getElem?_append_left hk] at h
      obtain ⟨h1, h2, h3⟩ := cnt_get un n k x h
      exact ⟨h1, by omega, h3⟩
    · rw [List.getElem?_append_right (by omega)] at h
      by_cases hn : (un n).isSome = true
      · have e : List.filter (fun i => (un i).isSome) [n] = [n] := by simp [hn]
        rw [e] at h
        have hk0 : k - ((List.range n).filter (fun i => (un i).isSome)).length = 0 := by
          have := (List.getElem?_eq_some_iff.1 h).1
          simp at this
          omega
        rw [hk0] at h
        simp at h
        subst h
        exact ⟨by unfold cnt; omega, by omega, hn⟩
      · have e : List.filter (fun i => (un i).isSome) [n] = [] := by simp [hn]
        rw [e] at h
        simp at h

theorem get_cnt (un : Nat → Option (List UInt8)) : ∀ (n y : Nat), y < n → (un y).isSome = true → ((List.range n).filter (fun i => (un i).isSome))[cnt un y]? = some y
  | 0, y, h, _ => by omega
  | n + 1, y, h, hy => by
    rw [List.range_succ, List.filter_append]
    by_cases h1 : y < n
    · have ih := get_cnt un n y h1 hy
      rw [List.getElem?_append_left (List.getElem?_eq_some_iff.1 ih).1]
      exact ih
    · have e : y = n := by omega
      subst e
      have e2 : List.filter (fun i => (un i).isSome) [y] = [y] := by simp [hy]
      rw [e2, List.getElem?_append_right (by unfold cnt; exact Nat.le_refl _)]
      have : cnt un y - ((List.range y).filter (fun i => (un i).isSome)).length = 0 := by unfold cnt; omega
      rw [this]
      rfl

/-- The safe sectors while those that come are laid, the first j of the unsafe ones done. -/
def laid (S : St) (ks : List Int) (j : Nat) (x : Nat) : List UInt8 := if (S.un x).isSome = true ∧ cnt S.un x < j ∧ comes ks (cnt S.un x) = true then sec S x else piece S.safe x

theorem laid_zero (S : St) (ks : List Int) (x : Nat) : laid S ks 0 x = piece S.safe x := by
  unfold laid
  rw [if_neg (by omega)]

theorem laid_end {S : St} (hs : S.Ok) (ks : List Int) (x : Nat) (hx : x < S.n) : laid S ks S.unl.length x = piece (S.after ks) x := by
  unfold laid St.after
  rw [left_piece hs]
  by_cases h : (S.un x).isSome = true ∧ comes ks (cnt S.un x) = true
  · have h1 := (List.getElem?_eq_some_iff.1 (get_cnt S.un S.n x hx h.1)).1
    rw [if_pos ⟨h.1, h1, h.2⟩, if_pos h]
    obtain ⟨l, hl⟩ := Option.isSome_iff_exists.1 h.1
    simp [sec, hl]
  · rw [if_neg (fun e => h ⟨e.1, e.2.2⟩), if_neg h]

theorem laid_step {S : St} (ks : List Int) (j y : Nat) (hy : S.unl[j]? = some y) (x : Nat) (hx : x < S.n) : laid S ks (j + 1) x = if comes ks j = true then (if x = y then sec S y else laid S ks j x) else laid S ks j x := by
  obtain ⟨h1, h2, h3⟩ := cnt_get S.un S.n j y hy
  by_cases hxy : x = y
  · subst hxy
    unfold laid
    rw [h1]
    by_cases hc : comes ks j = true
    · rw [if_pos ⟨h3, by omega, hc⟩, if_pos hc, if_pos rfl]
    · rw [if_neg (fun e => hc e.2.2), if_neg hc, if_neg (fun e => hc e.2.2)]
  · have hne : (S.un x).isSome = true → cnt S.un x ≠ j := fun hs e => by
      have := get_cnt S.un S.n x hx hs
      rw [e] at this
      have h4 : S.unl[j]? = some x := this
      rw [hy] at h4
      cases h4
      exact hxy rfl
    have e : laid S ks (j + 1) x = laid S ks j x := by
      unfold laid
      by_cases hs : (S.un x).isSome = true ∧ cnt S.un x < j ∧ comes ks (cnt S.un x) = true
      · rw [if_pos hs, if_pos ⟨hs.1, by omega, hs.2.2⟩]
      · rw [if_neg hs, if_neg (fun e => hs ⟨e.1, by have := hne e.1; omega, e.2.2⟩)]
    rw [e, if_neg hxy]
    split <;> rfl

theorem zero_sec (n k : Nat) (hk : 64 * k + 64 ≤ n) : piece (zero n) k = zero 64 := by
  simp only [piece, zero, List.drop_replicate, List.take_replicate]
  congr 1
  omega

/-! ### a script -/
theorem cells_stay {w w' : World} (hf : Fr (fun _ => False) w w') {a : Addr} {v : Value} (h : w.cell? a = some v) : w'.cell? a = some v := by
  have hl := World.block_lt_of_cell? w a h
  rw [World.cell?_of_block (w := w) (hf.block _ hl (fun f => f))]
  exact h

structure KI (W w : World) (g bm b6 b7 N : Nat) (S : St) (f6 f7 : Nat → List UInt8) : Prop where
  at_ : At w g bm S
  ok : S.Ok
  n : S.n = N
  safe : RowIs w b6 N f6
  last : RowIs w b7 N f7
  fr : Fr (fun _ => False) W w
  low : W.heap.size ≤ g ∧ W.heap.size ≤ bm ∧ W.heap.size ≤ b6 ∧ W.heap.size ≤ b7
  ne : b6 ≠ b7

theorem KI.stay {W w w' : World} {g bm b6 b7 N : Nat} {S : St} {f6 f7 : Nat → List UInt8} (h : KI W w g bm b6 b7 N S f6 f7) (hf : Fr (fun _ => False) w w') : KI W w' g bm b6 b7 N S f6 f7 :=
  ⟨h.at_.stay hf, h.ok, h.n, h.safe.keep hf (fun f => f), h.last.keep hf (fun f => f), h.fr.trans hf (fun _ _ f => f), h.low, h.ne⟩

theorem cells_apart {w : World} {g bm b : Nat} {s : St} {c : Array Value} {T : TypeId} (h : At w g bm s) (hb : w.heap[b]? = some (.cells c T)) (hT : T ≠ 92) : ¬ (b = g ∨ b = bm) := by
  obtain ⟨⟨kv, h1, _⟩, m, D, ⟨es, clock, h2, _⟩, _⟩ := h
  rintro (e | e)
  · subst e
    rw [h1] at hb
    injection hb with hb
    injection hb with _ e2
    exact hT e2.symm
  · subst e; rw [h2] at hb; cases hb

/-- The disk turns: the rows stay. -/
theorem KI.turn {W w w' : World} {g bm bm' b6 b7 N : Nat} {S S' : St} {f6 f7 : Nat → List UInt8} (h : KI W w g bm b6 b7 N S f6 f7) (hA : At w' g bm' S') (hb : bm' = bm ∨ w.heap.size ≤ bm') (hf : Fr (fun i => i = g ∨ i = bm) w w') (hok : S'.Ok) (hn : S'.n = N) : KI W w' g bm' b6 b7 N S' f6 f7 := by
  have h6 := cells_apart h.at_ h.safe (by decide)
  have h7 := cells_apart h.at_ h.last (by decide)
  have hs := h.fr.size
  have hl := h.low
  exact ⟨hA, hok, hn, h.safe.keep hf h6, h.last.keep hf h7, h.fr.trans hf (fun i hi e => by rcases e with e | e <;> omega), ⟨hl.1, by rcases hb with hb | hb <;> omega, hl.2.2⟩, h.ne⟩

theorem KI.row7 {W w w' : World} {g bm b6 b7 N : Nat} {S : St} {f6 f7 f7' : Nat → List UInt8} (h : KI W w g bm b6 b7 N S f6 f7) (hr : RowIs w' b7 N f7') (hf : Fr (· = b7) w w') : KI W w' g bm b6 b7 N S f6 f7' :=
  ⟨h.at_.rowKeep h.last hf, h.ok, h.n, h.safe.keep hf h.ne, hr, h.fr.trans hf (fun i hi e => by have := h.low; omega), h.low, h.ne⟩
theorem KI.row6 {W w w' : World} {g bm b6 b7 N : Nat} {S : St} {f6 f7 f6' : Nat → List UInt8} (h : KI W w g bm b6 b7 N S f6 f7) (hr : RowIs w' b6 N f6') (hf : Fr (· = b6) w w') : KI W w' g bm b6 b7 N S f6' f7 :=
  ⟨h.at_.rowKeep h.safe hf, h.ok, h.n, hr, h.last.keep hf (fun e => h.ne e.symm), h.fr.trans hf (fun i hi e => by have := h.low; omega), h.low, h.ne⟩
theorem KI.congr {W w : World} {g bm b6 b7 N : Nat} {S : St} {f6 f7 h6 h7 : Nat → List UInt8} (h : KI W w g bm b6 b7 N S f6 f7) (e6 : ∀ i, i < N → f6 i = h6 i) (e7 : ∀ i, i < N → f7 i = h7 i) : KI W w g bm b6 b7 N S h6 h7 :=
  ⟨h.at_, h.ok, h.n, h.safe.congr e6, h.last.congr e7, h.fr, h.low, h.ne⟩

theorem str_apart {w : World} {b b' N : Nat} {f : Nat → List UInt8} {c : Array Value} {T : TypeId} (h : RowIs w b' N f) (hb : w.heap[b]? = some (.cells c T)) (hT : T ≠ 9) : b ≠ b' := by
  rintro rfl
  unfold RowIs at h
  rw [h] at hb
  injection hb with hb
  injection hb with _ e2
  exact hT e2.symm

/-- The state behind a sync, where no power is armed. -/
theorem sync_calm {s : St} (ha : s.armed = 0) (hd : s.dead = false) : s.sync = (s.becomes s.image, 0) := by
  have h1 : s.step = (s, false) := by simp [St.step, ha]
  rw [St.sync, if_neg (by simp [hd]), h1]
  rfl

end Go.Proofs.YtjkhcfdflcndkaaGreat.D
