/-
  The document's answer's New. No condition.
-/
import Derived.Test.YthmnchemfigneaaGreatDC
import Derived.Deep.RegionLaw
import Derived.Lib.SmallJoins
namespace Go.Proofs.YthmnchemfigneaaGreat.D
open Go.RowKit Go.Maps Go.Shelf
set_option linter.unusedVariables false
set_option linter.unusedSimpArgs false

/-- The document's disk: of each sector its safe bytes, its written ones (none: it is safe). -/
structure RSt where
  safe : List (List UInt8)
  written : List (List UInt8)
  armed : Nat
  kept : List Int
  dead : Bool

def strs (l : List (List UInt8)) : List Value := l.map (fun x => Value.string (bs x))

structure RAt (w : World) (B g : Nat) (r : RSt) : Prop where
  low : B ≤ g
  cells : ∃ sv wv kv, w.heap[g]? = some (.cells #[sv, wv, .int .i64 r.armed, kv, .bool r.dead] 78) ∧ w.ownsRow B 9 1 sv r.safe.length (strs r.safe) ∧ w.ownsRow B 9 1 wv r.written.length (strs r.written) ∧
    (∀ b, sv.ownBlock = some b → wv.ownBlock ≠ some b) ∧ IntsAt w kv r.kept

/-- The sectors of bytes. -/
def chunk (l : List UInt8) (i : Nat) : List UInt8 := (l.drop (64 * i)).take 64
def chunks (l : List UInt8) (k : Nat) : List (List UInt8) := (List.range k).map (chunk l)

theorem rnew_bad (w : World) (l : List UInt8) (hl : ¬ IsImage l) (hlen : l.length ≤ 281474976710656) :
    Calls Tryz.prog 30 #[.string (bs l)] w fun e w' => e = .returned (.tuple #[.pointer none, .int .i64 170]) ∧ w' = w := by
  have HL := hid hl
  clear hl
  by_cases h1 : (l.length : Int) / 64 < 1
  · go_enter Tryz.func30, Tryz.ntmps30
    go_wp2_with fail
    go_ret2
    exact ⟨rfl, rfl⟩
  by_cases h2 : 4096 < (l.length : Int) / 64
  · go_enter Tryz.func30, Tryz.ntmps30
    go_wp2_with fail
    go_ret2
    exact ⟨rfl, rfl⟩
  have h3 : ((l.length : Int) / 64 * 64 != (l.length : Int)) = true := by
    have h4 : l.length % 64 ≠ 0 := fun e => HL.out ⟨by omega, e, by omega⟩
    simp; omega
  go_enter Tryz.func30, Tryz.ntmps30
  go_wp2_with fail
  go_ret2
  exact ⟨rfl, rfl⟩

theorem mk_strs (n : Nat) (hn : n ≤ 4096) (w : World) :
    (Instr.makeSlice 65 (.int .i64 (n : Int)) (.int .i64 (n : Int))).run Tryz.prog w = .ok (.slice (some ⟨w.heap.size, 0, none⟩) n n) (w.alloc (.cells (strs (List.replicate n [])).toArray 9)) := by
  have h := run_make_row' (P := Tryz.prog) 65 9 (.string (bs [])) 16 Tryz.underlying65 (by kernel_rfl) rfl .i64 .i64 n (by omega) (by omega) w
  rw [h]
  have e : madeCells #[Value.string (bs [])] n = (strs (List.replicate n [])).toArray := by
    apply Array.ext
    · simp [madeCells, strs]
    · intro i h1 h2
      have e0 : i % 1 = 0 := by omega
      simp [madeCells, strs, e0]
  rw [e]

/-- An append, as one step of a region that draws its order, by its run. -/
theorem step_append_run {P : Program} {ops : Array Oper} {o : Oper} {a : Act} {w : World} {K : Act → World → Prop} {Q : Exit → Act → World → Prop} {E : Prop}
    (hg : o.guard = none) (s x : Operand) (t : TypeId) (hop : o.op = Op.call { callee := Callee.builtin Builtin.append, args := #[s, x], argTypes := #[t, t] })
    (vs vx v' : Value) (w' : World) (hs : a.eval s = vs) (hx : a.eval x = vx) (hrun : (Builtin.append_ #[t, t] o.type #[vs, vx]).run P w = .ok v' w')
    (hK : K (a.put o.dst v') w') : if Region.wanted o (yielded ops a.tmps) = true then Oper.wp P o a w K Q else E := by
  have hw : Region.wanted o (yielded ops a.tmps) = true := by simp [Region.wanted, hg]
  rw [if_pos hw]
  unfold Oper.wp
  simp [execOp, hop, resolve, invoke, builtin, hs, hx, hrun, Result.andThen]
  exact hK

theorem row_apart {w : World} {B g n : Nat} {v : Value} {xs : List Value} {c : Array Value} {T e : TypeId} (h : w.ownsRow B e 1 v n xs) (hg : w.heap[g]? = some (.cells c T)) (hne : T ≠ e) : v.ownBlock ≠ some g := by
  rcases h.2 with ⟨rfl, _⟩ | ⟨b, cap, cur, rfl, _, hb, _⟩
  · simp [Value.ownBlock]
  · intro e1
    simp [Value.ownBlock] at e1
    subst e1
    rw [hg] at hb
    cases hb
    exact hne rfl

set_option maxHeartbeats 4000000 in
set_option maxRecDepth 100000 in
theorem rnew_c (w : World) (l : List UInt8) (hl : IsImage l) :
    Calls Tryz.prog 30 #[.string (bs l)] w fun e w' => ∃ g, e = .returned (.tuple #[.pointer (some ⟨g, 0, none⟩), .int .i64 0]) ∧
      RAt w' w.heap.size g { safe := chunks l (l.length / 64), written := List.replicate (l.length / 64) [], armed := 0, kept := [], dead := false } ∧ Below w.heap.size w w' := by
  obtain ⟨h1, h2, h3⟩ := hl
  obtain ⟨n, hn⟩ : ∃ n, n = l.length / 64 := ⟨_, rfl⟩
  have e1 : (l.length : Int) / 64 = n := by omega
  have e2 : (n : Int) * 64 = l.length := by omega
  have e3 : ((n : Int) * 64 != (l.length : Int)) = false := by simp; omega
  have hn1 : 1 ≤ n := by omega
  have hn2 : n ≤ 4096 := by omega
  have HL := hid (show l.length = 64 * n by omega)
  rw [← hn]
  have d1 : decide ((n : Int) < 1) = false := decide_eq_false (by omega)
  have d2 : decide (4096 < (n : Int)) = false := decide_eq_false (by omega)
  have HNEW := hid (MapKept.heap_alloc w (.cells #[.slice none 0 0, .slice none 0 0, .int .i64 0, .slice none 0 0, .bool false] 78)).1
  have HB0 := hid (show Below w.heap.size w (w.alloc (.cells #[.slice none 0 0, .slice none 0 0, .int .i64 0, .slice none 0 0, .bool false] 78)) from (Below.refl _ w).alloc (Nat.le_refl _) _)
  obtain ⟨i0, hi, hz0, hz1, hz2⟩ := info_parts (show (Tryz.prog.info? 9).map (fun i => (i.zero, i.size, i.bytes)) = some (some (.string (bs [])), 1, 16) by kernel_rfl)
  clear h1 h2 hn
  go_enter Tryz.func30, Tryz.ntmps30
  go_wp2_with fail
  go_loopw [6] (fun v wr => ∃ (k : Nat) (a : Option Addr) (cap : Nat), v = .int .i64 k ∧ k ≤ n ∧ Hid (wr.heap[w.heap.size]? = some (.cells #[.slice a k cap, .slice none 0 0, .int .i64 0, .slice none 0 0, .bool false] 78)) ∧
      Hid (wr.ownsRow w.heap.size 9 1 (.slice a k cap) k (strs (chunks l k))) ∧ Hid (Below w.heap.size w wr)) (fun i _ => n - (intOf i).toNat)
  case atStart => exact ⟨0, none, 0, rfl, by omega, HNEW, hid (World.ownsRow_nil _ _ _ _), HB0⟩
  case round =>
    obtain ⟨k, a, cap, rfl, hk, HG, HO, HW⟩ := hrel
    by_cases hend : k = n
    · subst hend
      have hmk := mk_strs k (by omega) wr
      have hbl : w.heap.size < wr.heap.size := lt_of_at HG.out
      have HNR := hid (MapKept.heap_alloc wr (.cells (strs (List.replicate k [])).toArray 9)).1
      have hg1 : (wr.alloc (.cells (strs (List.replicate k [])).toArray 9)).heap[w.heap.size]? = some (.cells #[.slice a k cap, .slice none 0 0, .int .i64 0, .slice none 0 0, .bool false] 78) := (Below.heap_alloc _ _ _ hbl).trans HG.out
      have c1 : (wr.alloc (.cells (strs (List.replicate k [])).toArray 9)).cell? ⟨w.heap.size, 1, none⟩ = some (.slice none 0 0) := cell_at hg1 1
      have f1 : (wr.alloc (.cells (strs (List.replicate k [])).toArray 9)).frozen? ⟨w.heap.size, 1, none⟩ = false := frozen_at hg1 1
      have HG1 := hid hg1
      have HO1 := hid (HO.out.alloc (.cells (strs (List.replicate k [])).toArray 9))
      have HW1 := hid (HW.out.alloc (Nat.le_of_lt hbl) (.cells (strs (List.replicate k [])).toArray 9))
      clear hg1
      go_wp2_with fail
      go_ret2
      have hgs := Lib.grownBy_setCell (wr.alloc (.cells (strs (List.replicate k [])).toArray 9)) w.heap.size 1 (.slice (some ⟨wr.heap.size, 0, none⟩) k k)
      have hls : (strs (List.replicate k [])).length = k := by simp [strs]
      have hlc : (chunks l k).length = k := by simp [chunks]
      rw [← World.setCell_alloc_past _ _ _ _ hbl]
      refine ⟨w.heap.size, rfl, ⟨Nat.le_refl _, .slice a k cap, .slice (some ⟨wr.heap.size, 0, none⟩) k k, .slice none 0 0, set_at HG1.out 1 _, ?_, ?_, ?_, ⟨none, 0, rfl, by simp, Or.inl rfl, fun x hx => by cases hx⟩⟩, HW1.out.setCell (p := ⟨w.heap.size, 1, none⟩) (Nat.le_refl _) _⟩
      · simp only [hlc]
        exact HO1.out.kept hgs (Or.inr (row_apart HO1.out HG1.out (by decide)))
      · simp only [List.length_replicate]
        refine ⟨by rw [hls]; omega, Or.inr ⟨wr.heap.size, k, _, rfl, Nat.le_of_lt hbl, (hgs.block _ (by simp) (by simp; omega)).trans HNR.out, Nat.le_refl _, by unfold maxLen; omega, by simp [hls], ?_⟩⟩
        rw [List.take_of_length_le (by simp [hls])]
      · intro b hb
        simp only [Value.ownBlock]
        rcases HO.out.2 with ⟨h0, _⟩ | ⟨b', cap2, cur, h0, _, hb1, _⟩
        · rw [h0] at hb; simp [Value.ownBlock] at hb
        · rw [h0] at hb
          simp [Value.ownBlock] at hb
          have := lt_of_at hb1
          intro e
          simp at e
          omega
    · have hk' : k < n := by omega
      have hbl : w.heap.size < wr.heap.size := lt_of_at HG.out
      obtain ⟨C, hC⟩ : ∃ C, C = chunk l k := ⟨_, rfl⟩
      have hsl := slice_str (P := Tryz.prog) 9 Tryz.underlying9 wr.drew l (64 * (k : Int)) (64 * (k : Int) + 64) (by omega) (by omega) (by have := HL.out; omega)
      have x1 : (64 * (k : Int)).toNat = 64 * k := by omega
      have x2 : (64 * (k : Int) + 64).toNat - 64 * k = 64 := by omega
      rw [x1, x2, show (l.drop (64 * k)).take 64 = C from hC.symm] at hsl
      have y1 : IntKind.i64.wrap (64 * (k : Int)) = 64 * (k : Int) := by rw [IntKind.wrap_i64]; omega
      have y2 : IntKind.i64.wrap (64 * (k : Int) + 64) = 64 * (k : Int) + 64 := by rw [IntKind.wrap_i64]; omega
      have hnew := (MapKept.heap_alloc wr (.cells #[.string (bs C)] 9)).1
      have c0 : wr.cell? ⟨w.heap.size, 0, none⟩ = some (.slice a k cap) := cell_at HG.out 0
      have c1 : (wr.alloc (.cells #[.string (bs C)] 9)).cell? ⟨w.heap.size, 0, none⟩ = some (.slice a k cap) := by rw [World.cell?_alloc_past _ _ _ hbl]; exact c0
      obtain ⟨v', w2, hrun, hown2, hgr2, _⟩ := run_append_own (P := Tryz.prog) ((wr.alloc (.cells #[.string (bs C)] 9)).drew) w.heap.size 65 65 9 i0 (.string (bs [])) 1 16 Tryz.underlying65 hi hz0 hz1 hz2 rfl (by decide)
        (.slice a k cap) k (strs (chunks l k)) ((HO.out.alloc _).drew) ⟨wr.heap.size, 0, none⟩ 1 1 [.string (bs C)] rfl (by
          intro j u hj
          have hj0 : j = 0 := by have := (List.getElem?_eq_some_iff.1 hj).1; simpa using this
          subst hj0
          simp at hj
          subst hj
          have e1 : (⟨wr.heap.size, 0, none⟩ : Addr).add 0 = ⟨wr.heap.size, 0, none⟩ := by unfold Addr.add; split <;> simp_all
          rw [e1]
          exact cell_at hnew 0) (by intro u hu; simp at hu; subst hu; rfl) (by unfold maxLen; omega) (by omega) (by show w.heap.size ≤ (wr.alloc _).heap.size; simp; omega)
      have HC := hid hC
      have hap := row_apart HO.out HG.out (by decide)
      have hg2 : w2.heap[w.heap.size]? = some (.cells #[.slice a k cap, .slice none 0 0, .int .i64 0, .slice none 0 0, .bool false] 78) := by
        refine (hgr2.block _ (by show w.heap.size < (wr.alloc _).heap.size; simp; omega) (fun e => hap e.symm)).trans ?_
        show (wr.alloc _).heap[w.heap.size]? = _
        rw [Below.heap_alloc _ _ _ hbl]
        exact HG.out
      have c2 : w2.cell? ⟨w.heap.size, 0, none⟩ = some (.slice a k cap) := cell_at hg2 0
      have f2 : w2.frozen? ⟨w.heap.size, 0, none⟩ = false := frozen_at hg2 0
      obtain ⟨g', cap', rfl⟩ := Joins.ownsRow_form hown2 (by omega)
      have HG2 := hid hg2
      have HO2 := hid hown2
      have HW2 := hid (((HW.out.alloc (Nat.le_of_lt hbl) (.cells #[.string (bs C)] 9)).drew).grown hgr2 (by show w.heap.size ≤ (wr.alloc _).heap.size; simp; omega) (fun b hb => by
        rcases HO.out.2 with ⟨h0, _⟩ | ⟨b', cap2, cur, h0, hb1, _⟩
        · rw [h0] at hb; simp [Value.ownBlock] at hb
        · rw [h0] at hb; simp [Value.ownBlock] at hb; omega))
      clear x1 x2 hend hnew hC hown2 hgr2 hap hg2
      go_wp2_with fail
      go_region_law (refine step_append_run rfl (.tmp 34) (.tmp 42) 65 rfl _ _ _ _ (by simp [Act.eval, Act.put]) (by simp [Act.eval, Act.put]) hrun ?_)
      all_goals (
        go_wp2_with fail
        go_roundw
        case measure => simp [intOf]; omega
        refine ⟨k + 1, some ⟨g', 0, none⟩, cap', rfl, by omega, hid ?_, hid ?_, hid ?_⟩
        · exact set_at HG2.out 0 _
        · have h7 := HO2.out
          have e7 : strs (chunks l (k + 1)) = strs (chunks l k) ++ [.string (bs C)] := by simp [strs, chunks, List.range_succ, ← HC.out]
          rw [e7]
          exact h7.kept (Lib.grownBy_setCell _ _ 0 _) (Or.inr (row_apart h7 HG2.out (by decide)))
        · exact HW2.out.setCell (p := ⟨w.heap.size, 0, none⟩) (Nat.le_refl _) _)

end Go.Proofs.YthmnchemfigneaaGreat.D
