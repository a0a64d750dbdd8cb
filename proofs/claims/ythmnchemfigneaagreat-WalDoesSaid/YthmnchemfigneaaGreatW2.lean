/-
  A record's sectors. No condition beyond the sizes that are named.
-/
import Derived.Test.YthmnchemfigneaaGreatW1
import Derived.Test.YthmnchemfigneaaGreatWF
import Derived.Stop.RegionWithIn
namespace Go.Proofs.YthmnchemfigneaaGreat.D
open Go.RowKit Go.Maps Go.Shelf
set_option linter.unusedVariables false
set_option linter.unusedSimpArgs false
attribute [local go_sem] Oper.semAt_some

theorem wpListIn_append_run {F : Fence} {n : Nat} {P : Program} (w : World) {ops : Array Oper} {rest : List Oper} {o : Oper} {a : Act} {Q : Exit → Act → World → Prop}
    (hg : o.guard = none) (s x : Operand) (t tn : TypeId) (hop : o.op = Op.call { callee := Callee.builtin Builtin.append, args := #[s, x], argTypes := #[t, tn] })
    (vs vx : Value) (hs : a.eval s = vs) (hx : a.eval x = vx) (v' : Value) (w' : World) (hr : (Builtin.append_ #[t, tn] o.type #[vs, vx]).run P w = .ok v' w')
    (h : wpListIn F n P ops Q rest (a.put o.dst v') w') : wpListIn F n P ops Q (o :: rest) a w := by
  refine wpListIn_plain hg fun K hK' => ?_
  unfold Oper.wpIn
  refine ⟨?_, ?_⟩
  · simp [Oper.about, hop, resolve, Target.leads, Sem.run_pure]
  · rw [Oper.semAt_plain F _ _ (by rw [hop]; intro c hc'; cases hc')]
    simp [execOp, hop, resolve, invoke, builtin, hs, hx, hr, Result.andThen]
    exact hK' _ _ h

theorem pieces_in (F : Fence) (n : Nat) (hF : F.fn 62) (hro : F.round = none) (s : ByteArray) (W : World) :
    CallsIn F n Tryz.prog 62 #[.string s] W fun e w' => e = .returned (.func (.func 76) #[] #[.pointer (some ⟨W.heap.size, 0, none⟩)]) ∧ w' = W.alloc (.cells #[.string s] 9) := by
  refine callsIn_of_wp Tryz.func62 rfl hF ?_ hro
  simp only [Tryz.ntmps62, List.size_toArray, List.length_cons, List.length_nil, Nat.reduceAdd, Nat.reduceSub, Array.replicate_succ, Array.replicate_zero, List.push_toArray, List.append_toArray, List.nil_append, List.cons_append]
  have hmf : ∀ (fn : Fn) (first cap : Array Value) (w : World), (Instr.makeFunc fn first cap).run Tryz.prog w = .ok (.func fn first cap) w := fun _ _ _ _ => rfl
  gi_wp2
  go_ret
  exact ⟨rfl, rfl⟩

/-- The state of the loop over a record's pieces. -/
structure SJ (w0 W : World) (number : Nat) (rec : List UInt8) (cap : Nat) (buf r : List UInt8) : Prop where
  h0 : W.heap[w0.heap.size]? = some (.cells #[.int .i64 (number : Int)] 3)
  h1 : W.heap[w0.heap.size + 1]? = some (.cells #[.string (bs rec)] 9)
  h2 : Buf W (w0.heap.size + 2) cap buf
  h3 : W.heap[w0.heap.size + 3]? = some (.cells #[.slice (some ⟨w0.heap.size + 2, 0, none⟩) buf.length cap] 54)
  h4 : W.heap[w0.heap.size + 4]? = some (.cells #[.string (bs r)] 9)
  fr : Fr (fun i => w0.heap.size ≤ i) w0 W

theorem SJ.minds {w0 W W' : World} {number : Nat} {rec buf r : List UInt8} {cap : Nat} {row : Option Nat} (h : SJ w0 W number rec cap buf r) (hg : W.grownBy W' row)
    (hr : ∀ k, row = some k → w0.heap.size ≤ k ∧ ∃ o : Obj, W.heap[k]? = some o ∧ o.isCells = false) : SJ w0 W' number rec cap buf r := by
  have hf : Fr (fun i => row = some i) W W' := ⟨hg.os, hg.tape, hg.output, hg.size, fun i hi hn => hg.block i hi (fun e => hn e.symm)⟩
  have hn : ∀ (b : Nat) c T, W.heap[b]? = some (.cells c T) → ¬ row = some b := fun b c T hb e => by
    obtain ⟨_, o, ho, hc⟩ := hr b e
    rw [hb] at ho
    cases ho
    cases hc
  exact ⟨hf.at h.h0 (hn _ _ _ h.h0), hf.at h.h1 (hn _ _ _ h.h1), h.h2.keep hf (hn _ _ _ h.h2.1), hf.at h.h3 (hn _ _ _ h.h3), hf.at h.h4 (hn _ _ _ h.h4), h.fr.trans hf (fun i _ e => (hr i e).1)⟩

theorem part_eq (r : List UInt8) (k : Nat) : (r.drop (48 * k)).take (min 48 (r.drop (48 * k)).length) = part r k := by
  unfold part
  rw [List.take_eq_take_iff]
  omega

theorem slice_to {P : Program} (t : TypeId) (ht : P.underlying t = some .string) (w : World) (l : List UInt8) (b : Int) (h1 : 0 ≤ b) (h2 : b ≤ l.length) :
    (Instr.slice t (.string (bs l)) none (some (.int .i64 b)) none).run P w = .ok (.string (bs (l.take b.toNat))) w := by
  have hz : (bs l).size = l.length := by simp [bs, ByteArray.size]
  have eb : (b.toNat : Int) = b := Int.toNat_of_nonneg (by omega)
  have hx : (bs l).extract 0 b.toNat = bs (l.take b.toNat) := by
    apply ByteArray.ext
    simp [bs, ByteArray.data_extract]
  simp [Instr.slice, run_underlying ht, Instr.sliceBounds, run_sliceBound, hz, h1, h2, eb, Result.andThen]
  exact hx
theorem slice_from {P : Program} (t : TypeId) (ht : P.underlying t = some .string) (w : World) (l : List UInt8) (b : Int) (h1 : 0 ≤ b) (h2 : b ≤ l.length) :
    (Instr.slice t (.string (bs l)) (some (.int .i64 b)) none none).run P w = .ok (.string (bs (l.drop b.toNat))) w := by
  have hz : (bs l).size = l.length := by simp [bs, ByteArray.size]
  have eb : (b.toNat : Int) = b := Int.toNat_of_nonneg (by omega)
  have hx : (bs l).extract b.toNat l.length = bs (l.drop b.toNat) := by
    apply ByteArray.ext
    simp [bs, ByteArray.data_extract]
    rw [List.take_of_length_le (by rw [List.length_drop]; omega)]
  simp [Instr.slice, run_underlying ht, Instr.sliceBounds, run_sliceBound, hz, h1, h2, eb, Result.andThen]
  exact hx

set_option maxHeartbeats 4000000 in
set_option maxRecDepth 100000 in
/-- The pieces of a record, one behind the other. -/
theorem pieces1_in (F : Fence) (n : Nat) (hF : F.fn 76) (hro : F.round = none) (hn : 1 ≤ n) (l c : Nat) (rec : List UInt8) (m : Nat) (hm : m = many rec.length) (hl : rec.length ≤ 16384)
    (J : List Nat → List UInt8 → World → Prop) (B : World → Prop)
    (hcell : ∀ pre r W, J pre r W → W.heap[c]? = some (.cells #[.string (bs r)] 9))
    (hset : ∀ pre r r' W, J pre r W → J pre r' (W.setCell ⟨c, 0, none⟩ (.string (bs r')))) (hsetB : ∀ W v, B W → B (W.setCell ⟨c, 0, none⟩ v))
    (hY : ∀ pre r x W1, J pre r W1 → B W1 → (pre = List.range x ∧ x < m) → YieldAt F (n - 1) Tryz.prog l #[.int .i64 (x : Int), .string (bs (part rec x))] W1 fun e W' => e = .returned (.bool true) ∧ J (pre ++ [x]) r W' ∧ B W')
    (W : World) (h0 : J [] rec W) (hB0 : B W) :
    CallsIn F n Tryz.prog 76 #[.func (.yield l) #[] #[], .pointer (some ⟨c, 0, none⟩)] W fun e W' => (∃ v, e = .returned v) ∧ J (List.range m) (rec.drop (48 * m)) W' ∧ B W' := by
  have hm2 : m ≤ 342 := by rw [hm]; unfold many; omega
  have HM := hid hm
  have HH := hid h0
  have HB := hid hB0
  have HC := hid hcell
  have HS := hid hset
  have HSB := hid hsetB
  have HY := hid hY
  clear hm h0 hB0 hcell hset hsetB hY
  refine callsIn_of_wp Tryz.func76 rfl hF ?_ hro
  simp only [Tryz.ntmps76, List.size_toArray, List.length_cons, List.length_nil, Nat.reduceAdd, Nat.reduceSub, Array.replicate_succ, Array.replicate_zero, List.push_toArray, List.append_toArray, List.nil_append, List.cons_append]
  gi_wp2
  gi_loopw [3] (fun v wr => ∃ k : Nat, v = .int .i64 k ∧ k ≤ m ∧ Hid (J (List.range k) (rec.drop (48 * k)) wr) ∧ Hid (B wr)) (fun v _ => m - (intOf v).toNat)
  case atStart => exact ⟨0, rfl, by omega, hid (by simpa using HH.out), HB⟩
  case round =>
    obtain ⟨k, rfl, hk, HJ, HBw⟩ := hrel
    obtain ⟨r, hr⟩ : ∃ r, r = rec.drop (48 * k) := ⟨_, rfl⟩
    have hc := HC.out _ _ _ HJ.out
    rw [← hr] at hc HJ
    have c0 : wr.cell? ⟨c, 0, none⟩ = some (.string (bs r)) := cell_at hc 0
    have f0 : wr.frozen? ⟨c, 0, none⟩ = false := frozen_at hc 0
    have hrl : r.length = rec.length - 48 * k := by rw [hr, List.length_drop]
    have hz : (bs r).size = r.length := by simp [bs, ByteArray.size]
    have HR := hid hr
    clear hc hr
    by_cases hend : k = m
    · subst hend
      have k0 : ¬ k = 0 := by have := HM.out; unfold many at this; omega
      have r0 : r = [] := by apply List.eq_nil_of_length_eq_zero; have := HM.out; unfold many at this; omega
      subst r0
      gi_wp2
      go_end0
      exact ⟨⟨_, rfl⟩, by rw [← HR.out]; exact HJ.out, HBw.out⟩
    · have hkm : k < m := by omega
      obtain ⟨q, hq⟩ : ∃ q, q = min 48 r.length := ⟨_, rfl⟩
      have hmin : ∀ w, (Builtin.min_ #[3, 3] 3 #[.int .i64 48, .int .i64 (r.length : Int)]).run Tryz.prog w = .ok (.int .i64 (q : Int)) w := by
        intro w
        rw [run_min_int2]
        congr 2
        split <;> omega
      have hq1 : q ≤ 48 := by omega
      have ep : part rec k = r.take q := by rw [← part_eq, ← HR.out, ← hq]
      have hs1 : ∀ w, (Instr.slice 9 (.string (bs r)) none (some (.int .i64 (q : Int))) none).run Tryz.prog w = .ok (.string (bs (part rec k))) w := fun w => by
        have := slice_to (P := Tryz.prog) 9 Tryz.underlying9 w r (q : Int) (by omega) (by omega)
        rwa [Int.toNat_natCast, ← ep] at this
      have er : r.drop q = rec.drop (48 * (k + 1)) := by
        rw [HR.out, List.drop_drop]
        by_cases h48 : 48 ≤ r.length
        · congr 1; omega
        · rw [List.drop_of_length_le (by omega), List.drop_of_length_le (by omega)]
      have hs2 : ∀ w, (Instr.slice 9 (.string (bs r)) (some (.int .i64 (q : Int))) none none).run Tryz.prog w = .ok (.string (bs (rec.drop (48 * (k + 1))))) w := fun w => by
        have := slice_from (P := Tryz.prog) 9 Tryz.underlying9 w r (q : Int) (by omega) (by omega)
        rwa [Int.toNat_natCast, er] at this
      obtain ⟨fn, tmps, assign, body, hy, hR⟩ := HY.out (List.range k) r k wr HJ.out HBw.out ⟨rfl, hkm⟩
      have HR2 := hid hR
      have hne : k = 0 ∨ r ≠ [] := by
        by_cases k0 : k = 0
        · exact Or.inl k0
        · refine Or.inr (fun e => ?_)
          have := congrArg List.length e
          have h2 := HM.out
          unfold many at h2
          simp only [List.length_nil] at this
          omega
      clear hq ep er hR
      have two : ((k : Int) == 0) = true ∨ (((k : Int) == 0) = false ∧ (!r.isEmpty) = true) := by
        by_cases k0 : k = 0
        · exact Or.inl (by simp [k0])
        · exact Or.inr ⟨by simpa using k0, by simpa using hne.resolve_left k0⟩
      have HRL := hid hrl
      clear hne hrl hz
      have HK := hid hkm
      clear hend
      rcases two with k0 | ⟨k0, r0⟩
      all_goals
        gi_wp2
        refine HR2.out.mono ?_
        rintro e W3 ⟨rfl, hJ3, hB3⟩
        have hc3 := HC.out _ _ _ hJ3
        have c3 : W3.cell? ⟨c, 0, none⟩ = some (.string (bs r)) := cell_at hc3 0
        have f3 : W3.frozen? ⟨c, 0, none⟩ = false := frozen_at hc3 0
        have HJ3 := hid hJ3
        have HB3 := hid hB3
        clear hc3 hJ3 hB3 c0 f0
        gi_wp2
        go_roundw
        case rel =>
          refine ⟨k + 1, by go_num, by omega, hid ?_, hid (HSB.out _ _ HB3.out)⟩
          rw [List.range_succ]
          exact HS.out _ _ _ _ HJ3.out
        case measure => simp [intOf]; omega

theorem SJ.put {w0 W W2 : World} {number : Nat} {rec buf r m : List UInt8} {cap : Nat} (h : SJ w0 W number rec cap buf r) (hb : Buf W2 (w0.heap.size + 2) cap (buf ++ m)) (hf : Fr (· = w0.heap.size + 2) W W2) :
    SJ w0 (W2.setCell ⟨w0.heap.size + 3, 0, none⟩ (.slice (some ⟨w0.heap.size + 2, 0, none⟩) (buf.length + m.length) cap)) number rec cap (buf ++ m) r := by
  have hs := fr_set1 W2 (w0.heap.size + 3) 0 (.slice (some ⟨w0.heap.size + 2, 0, none⟩) (buf.length + m.length) cap)
  refine ⟨hs.at (hf.at h.h0 (by omega)) (by omega), hs.at (hf.at h.h1 (by omega)) (by omega), hb.keep hs (by omega), ?_, hs.at (hf.at h.h4 (by omega)) (by omega), (h.fr.trans hf (fun i _ e => by omega)).trans hs (fun i _ e => by omega)⟩
  rw [set_at (hf.at h.h3 (by omega)), List.length_append]
  rfl
theorem SJ.cells {w0 W : World} {number : Nat} {rec buf r : List UInt8} {cap : Nat} (h : SJ w0 W number rec cap buf r) :
    W.cell? ⟨w0.heap.size, 0, none⟩ = some (.int .i64 (number : Int)) ∧ W.cell? ⟨w0.heap.size + 1, 0, none⟩ = some (.string (bs rec)) ∧
    W.cell? ⟨w0.heap.size + 3, 0, none⟩ = some (.slice (some ⟨w0.heap.size + 2, 0, none⟩) buf.length cap) ∧ W.frozen? ⟨w0.heap.size + 3, 0, none⟩ = false :=
  ⟨cell_at h.h0 0, cell_at h.h1 0, cell_at h.h3 0, frozen_at h.h3 0⟩
theorem SJ.others {w0 W : World} {number : Nat} {rec buf r : List UInt8} {cap : Nat} (h : SJ w0 W number rec cap buf r) {B : Nat} (hB : w0.heap.size + 4 < B) {W' : World} (hf : Fr (fun i => i = w0.heap.size + 2 ∨ i = w0.heap.size + 3) W W') : KeepsFrom B W W' :=
  ⟨hf.size, fun k o hk ho _ => hf.at ho (by omega)⟩

theorem SJ.mid {w0 W W2 : World} {number : Nat} {rec buf r : List UInt8} {cap L : Nat} (h : SJ w0 W number rec cap buf r) (hf : Fr (· = w0.heap.size + 2) W W2) (hL : buf.length = L) :
    W2.cell? ⟨w0.heap.size + 3, 0, none⟩ = some (.slice (some ⟨w0.heap.size + 2, 0, none⟩) L cap) ∧ W2.frozen? ⟨w0.heap.size + 3, 0, none⟩ = false :=
  ⟨hL ▸ cell_at (hf.at h.h3 (by omega)) 0, frozen_at (hf.at h.h3 (by omega)) 0⟩
/-- The state behind a step: what the world is, what the buffer holds, how much. -/
structure SN (w0 Wa W : World) (number : Nat) (rec : List UInt8) (cap : Nat) (buf r : List UInt8) (L : Nat) : Prop where
  sj : SJ w0 W number rec cap buf r
  len : buf.length = L
  fr : Fr (fun i => i = w0.heap.size + 2 ∨ i = w0.heap.size + 3) Wa W
theorem SN.put {w0 Wa W W2 : World} {number : Nat} {rec buf r m : List UInt8} {cap L k : Nat} (h : SN w0 Wa W number rec cap buf r L) (hb : Buf W2 (w0.heap.size + 2) cap (buf ++ m)) (hf : Fr (· = w0.heap.size + 2) W W2) (hm : m.length = k) :
    SN w0 Wa (W2.setCell ⟨w0.heap.size + 3, 0, none⟩ (.slice (some ⟨w0.heap.size + 2, 0, none⟩) (L + k) cap)) number rec cap (buf ++ m) r (L + k) := by
  have h1 := h.sj.put hb hf
  rw [h.len, hm] at h1
  exact ⟨h1, by rw [List.length_append, h.len, hm], (h.fr.trans hf (fun i _ e => Or.inl e)).trans (fr_set1 _ _ _ _) (fun i _ e => Or.inr e)⟩
theorem SN.cells {w0 Wa W : World} {number : Nat} {rec buf r : List UInt8} {cap L : Nat} (h : SN w0 Wa W number rec cap buf r L) :
    W.cell? ⟨w0.heap.size, 0, none⟩ = some (.int .i64 (number : Int)) ∧ W.cell? ⟨w0.heap.size + 1, 0, none⟩ = some (.string (bs rec)) ∧
    W.cell? ⟨w0.heap.size + 3, 0, none⟩ = some (.slice (some ⟨w0.heap.size + 2, 0, none⟩) L cap) ∧ W.frozen? ⟨w0.heap.size + 3, 0, none⟩ = false := by
  have := h.sj.cells
  rwa [h.len] at this
theorem SN.drew {w0 Wa W : World} {number : Nat} {rec buf r : List UInt8} {cap L : Nat} (h : SN w0 Wa W number rec cap buf r L) : SN w0 Wa W.drew number rec cap buf r L :=
  ⟨⟨h.sj.h0, h.sj.h1, h.sj.h2, h.sj.h3, h.sj.h4, h.sj.fr.drew⟩, h.len, h.fr.drew⟩
theorem many_in (l d : Nat) (W : World) (n m : Nat) (hn : n ≤ 9223372036854775000) (hm : m = many n) : CallsIn (Fence.wide.inRound l) d Tryz.prog 35 #[.int .i64 n] W fun e w' => e = .returned (.int .i64 (m : Int)) ∧ w' = W := by
  rw [hm]
  exact CallsIn.inRound l (callsIn_wide.2 (many_c W n hn))
theorem fr_putObj (w : World) (D : Nat) (o : Obj) : Fr (fun i => i = D) w (w.putObj D o) := ⟨rfl, rfl, rfl, by simp, fun k _ hk => World.putObj_heap_other hk⟩

/-- A string, noughts onto the buffer. -/
theorem SN.str {w0 Wa W : World} {number : Nat} {rec buf r : List UInt8} {cap L : Nat} (h : SN w0 Wa W number rec cap buf r L) (s : List UInt8) (k : Nat) (hk : s.length = k) (hc : L + k ≤ cap) :
    ∃ W2, (Builtin.append_ #[54, 9] 54 #[.slice (some ⟨w0.heap.size + 2, 0, none⟩) L cap, .string (bs s)]).run Tryz.prog W = .ok (.slice (some ⟨w0.heap.size + 2, 0, none⟩) (L + k) cap) W2 ∧
      SN w0 Wa (W2.setCell ⟨w0.heap.size + 3, 0, none⟩ (.slice (some ⟨w0.heap.size + 2, 0, none⟩) (L + k) cap)) number rec cap (buf ++ s) r (L + k) ∧
      W2.cell? ⟨w0.heap.size + 3, 0, none⟩ = some (.slice (some ⟨w0.heap.size + 2, 0, none⟩) L cap) ∧ W2.frozen? ⟨w0.heap.size + 3, 0, none⟩ = false := by
  have hlen := h.len
  subst hk hlen
  obtain ⟨W2, hr, hb, hf⟩ := buf_str h.sj.h2 s hc 54
  exact ⟨W2, hr, h.put hb hf rfl, h.sj.mid hf rfl⟩
theorem SN.zeros {w0 Wa W : World} {number : Nat} {rec buf r : List UInt8} {cap L : Nat} (h : SN w0 Wa W number rec cap buf r L) (k : Nat) (K : Int) (hK : K = (k : Int)) (hc : L + k ≤ cap) (hk : k ≤ 1000000) :
    ∃ W2, (Builtin.append_ #[54, 3] 54 #[.slice (some ⟨w0.heap.size + 2, 0, none⟩) L cap, .int .i64 K]).run Tryz.prog W = .ok (.slice (some ⟨w0.heap.size + 2, 0, none⟩) (L + k) cap) W2 ∧
      SN w0 Wa (W2.setCell ⟨w0.heap.size + 3, 0, none⟩ (.slice (some ⟨w0.heap.size + 2, 0, none⟩) (L + k) cap)) number rec cap (buf ++ List.replicate k 0) r (L + k) ∧
      W2.cell? ⟨w0.heap.size + 3, 0, none⟩ = some (.slice (some ⟨w0.heap.size + 2, 0, none⟩) L cap) ∧ W2.frozen? ⟨w0.heap.size + 3, 0, none⟩ = false := by
  have hlen := h.len
  subst hK hlen
  obtain ⟨W2, hr, hb, hf⟩ := buf_zeros h.sj.h2 k hc hk 54
  exact ⟨W2, hr, h.put hb hf List.length_replicate, h.sj.mid hf rfl⟩
theorem SJ.rec' {w0 W : World} {number : Nat} {rec buf r : List UInt8} {cap : Nat} (h : SJ w0 W number rec cap buf r) (r' : List UInt8) : SJ w0 (W.setCell ⟨w0.heap.size + 4, 0, none⟩ (.string (bs r'))) number rec cap buf r' := by
  have hs := fr_set1 W (w0.heap.size + 4) 0 (.string (bs r'))
  exact ⟨hs.at h.h0 (by omega), hs.at h.h1 (by omega), h.h2.keep hs (by omega), hs.at h.h3 (by omega), (set_at h.h4 0 _).trans rfl, h.fr.trans hs (fun i _ e => by omega)⟩
theorem buf_back {w : World} {g cap L : Nat} {l : List UInt8} (h : Buf w g cap l) (hL : l.length = L) :
    (convert 54 9 (.slice (some ⟨g, 0, none⟩) L cap)).run Tryz.prog w = .ok (.string (bs l)) w := by
  subst hL
  refine run_convert_bytes_back w 54 9 5 ⟨g, 0, none⟩ cap l Tryz.underlying54 Tryz.underlying5 Tryz.underlying9 (fun j hj => ?_)
  have e1 : (⟨g, 0, none⟩ : Addr).add j = ⟨g, j, none⟩ := by unfold Addr.add; split <;> simp_all
  rw [e1, World.cell?, h.1]
  have h5 : ((bufRow cap l).toList.take l.length)[j]? = some (.int .u8 (l[j].toNat : Int)) := by rw [bufRow_take]; simp [bytesOf, hj]
  rw [List.getElem?_take_of_lt hj] at h5
  simpa using h5
theorem SJ.begin (w : World) (number : Nat) (rec : List UInt8) (cap : Nat) :
    SJ w (((((w.alloc (.cells #[.int .i64 (number : Int)] 3)).alloc (.cells #[.string (bs rec)] 9)).alloc (.cells (bufRow cap []) 5)).alloc (.cells #[.slice (some ⟨w.heap.size + 2, 0, none⟩) 0 cap] 54)).alloc (.cells #[.string (bs rec)] 9)) number rec cap [] rec := by
  have hf : Fr (fun i => w.heap.size ≤ i) w (((((w.alloc (.cells #[.int .i64 (number : Int)] 3)).alloc (.cells #[.string (bs rec)] 9)).alloc (.cells (bufRow cap []) 5)).alloc (.cells #[.slice (some ⟨w.heap.size + 2, 0, none⟩) 0 cap] 54)).alloc (.cells #[.string (bs rec)] 9)) :=
    (((((Fr.refl _ w).alloc _).alloc _).alloc _).alloc _).alloc _
  have e : ∀ (W : World) (o : Obj) (k : Nat), (W.alloc o).heap[k]? = if k = W.heap.size then some o else W.heap[k]? := fun W o k => by
    show (W.heap.push o)[k]? = _
    exact Array.getElem?_push
  refine ⟨?_, ?_, ⟨?_, Nat.zero_le _⟩, ?_, ?_, hf⟩
  · simp only [e, World.size_alloc]
    rw [if_neg (by omega), if_neg (by omega), if_neg (by omega), if_neg (by omega), if_pos trivial]
  · simp only [e, World.size_alloc]
    rw [if_neg (by omega), if_neg (by omega), if_neg (by omega), if_pos trivial]
  · simp only [e, World.size_alloc]
    rw [if_neg (by omega), if_neg (by omega), if_pos trivial]
  · simp only [e, World.size_alloc]
    rw [if_neg (by omega), if_pos trivial]
    rfl
  · simp only [e, World.size_alloc]
    rw [if_pos trivial]

theorem big_in (l d : Nat) {w0 Wa W : World} {number : Nat} {rec buf r : List UInt8} {cap L : Nat} (h : SN w0 Wa W number rec cap buf r L) (n k : Nat) (K : Int) (hK : K = (k : Int)) (hn : n ≤ 9223372036854775807) (hk : k ≤ 8) (hl : L + k ≤ cap) (hcap : cap ≤ 1000000) :
    CallsIn (Fence.wide.inRound l) d Tryz.prog 63 #[.slice (some ⟨w0.heap.size + 2, 0, none⟩) L cap, .int .i64 n, .int .i64 K] W fun e W2 => e = .returned (.slice (some ⟨w0.heap.size + 2, 0, none⟩) (L + k : Nat) cap) ∧
      SN w0 Wa (W2.setCell ⟨w0.heap.size + 3, 0, none⟩ (.slice (some ⟨w0.heap.size + 2, 0, none⟩) (L + k) cap)) number rec cap (buf ++ be k n) r (L + k) ∧
      W2.cell? ⟨w0.heap.size + 3, 0, none⟩ = some (.slice (some ⟨w0.heap.size + 2, 0, none⟩) L cap) ∧ W2.frozen? ⟨w0.heap.size + 3, 0, none⟩ = false := by
  have hlen := h.len
  subst hK hlen
  refine (CallsIn.inRound l (callsIn_wide.2 (big_c W (w0.heap.size + 2) cap buf n k h.sj.h2 hn hk hl hcap))).mono ?_
  rintro e W2 ⟨rfl, hb, hf⟩
  exact ⟨rfl, h.put hb hf (be_length k n), h.sj.mid hf rfl⟩

set_option maxHeartbeats 4000000 in
set_option maxRecDepth 100000 in
theorem sectors_c (w : World) (n : Nat) (rec : List UInt8) (hn : n ≤ 9223372036854775807) (hl : rec.length ≤ 16384) :
    Calls Tryz.prog 38 #[.int .i64 n, .string (bs rec)] w fun e w' => e = .returned (.string (bs (secsOf n rec))) ∧ Fr (fun _ => False) w w' := by
  refine (callsIn_wide (n := 9)).1 ?_
  refine callsIn_of_wp_marks Tryz.func38 rfl trivial ?_ rfl
  simp only [Tryz.ntmps38, List.size_toArray, List.length_cons, List.length_nil, Nat.reduceAdd, Nat.reduceSub, Array.replicate_succ, Array.replicate_zero, List.push_toArray, List.append_toArray, List.nil_append, List.cons_append]
  have hz : (bs rec).size = rec.length := by simp [bs, ByteArray.size]
  obtain ⟨m, hm⟩ : ∃ m, m = many rec.length := ⟨_, rfl⟩
  have hm2 : m ≤ 342 := by rw [hm]; unfold many; omega
  have HM := hid hm
  have HMC := hid (show ∀ W, CallsIn Fence.wide 8 Tryz.prog 35 #[.int .i64 (rec.length : Int)] W fun e w' => e = .returned (.int .i64 (m : Int)) ∧ w' = W from fun W => by
    rw [hm]; exact callsIn_wide.2 (many_c W rec.length (by omega)))
  have hmk : ∀ W : World, (Instr.makeSlice 54 (.int .i64 0) (.int .i64 (64 * (m : Int)))).run Tryz.prog W = .ok (.slice (some ⟨W.heap.size, 0, none⟩) 0 (64 * m)) (W.alloc (.cells (bufRow (64 * m) []) 5)) := fun W => by
    have := (buf_new W (64 * m) (by omega)).1
    rwa [show ((64 * m : Nat) : Int) = 64 * (m : Int) by omega] at this
  clear hm
  gi_wp2_with (first
    | (refine ⟨trivial, ?_⟩; gi_at_call 35; refine (HMC.out _).mono ?_; rintro e w' ⟨rfl, rfl⟩)
    | (gi_at_call 62; refine (pieces_in Fence.wide _ trivial rfl _ _).mono ?_; rintro e w' ⟨rfl, rfl⟩)
    | (refine ⟨trivial, ?_⟩; gi_at_call 62; refine (pieces_in Fence.wide _ trivial rfl _ _).mono ?_; rintro e w' ⟨rfl, rfl⟩))
  obtain ⟨W0, hW0⟩ : ∃ W0, W0 = ((((w.alloc (.cells #[.int .i64 (n : Int)] 3)).alloc (.cells #[.string (bs rec)] 9)).alloc (.cells (bufRow (64 * m) []) 5)).alloc (.cells #[.slice (some ⟨w.heap.size + 2, 0, none⟩) 0 (64 * m)] 54)).alloc (.cells #[.string (bs rec)] 9) := ⟨_, rfl⟩
  have H0 : SJ w W0 n rec (64 * m) [] rec := by
    rw [hW0]; exact SJ.begin w n rec (64 * m)
  have hz0 : W0.heap.size = w.heap.size + 5 := by rw [hW0]; simp
  rw [← hW0]
  have HW0 := hid hW0
  have HZ0 := hid hz0
  have HH0 := hid H0
  have HMK := hid hmk
  clear hW0 hz0 H0 hmk
  refine range_with (α := Nat) (ρ := List UInt8) (encs := fun x => #[.int .i64 (x : Int), .string (bs (part rec x))]) rfl (by omega) (gf := 76) (lb := #[.pointer (some ⟨w.heap.size + 4, 0, none⟩)]) rfl trivial (enters_of Tryz.func76 (by kernel_rfl) rfl) (fun _ => rfl)
    (fun pre r W => SJ w W n rec (64 * m) (pre.flatMap (one n m rec)) r) (fun pre r x => pre = List.range x ∧ x < m) rec (rec.drop (48 * m)) (List.range m) ?minds HH0.out
    (fun x => { tmps := #[.int .i64 n, .string (bs rec), .pointer (some ⟨w.heap.size, 0, none⟩), .pointer (some ⟨w.heap.size + 1, 0, none⟩), .string ⟨#[]⟩, .pointer (some ⟨w.heap.size + 3, 0, none⟩), .int .i64 (x : Int), .string (bs (part rec x)), .string (bs rec), .int .i64 (rec.length : Int), .int .i64 (m : Int), .int .i64 (64 * (m : Int)), .slice (some ⟨w.heap.size + 2, 0, none⟩) 0 (64 * m), .string (bs rec), .func (.func 76) #[] #[.pointer (some ⟨w.heap.size + 4, 0, none⟩)], .int .i64 (x : Int), .string (bs (part rec x)), undef, undef, undef, undef, undef, undef, undef, undef, undef, undef, undef, undef, undef, undef, undef, undef, undef, undef, undef, undef, undef, undef, undef, undef, undef, undef, undef], defers := [] })
    ?assign ?body ?iter ?done
  case minds => exact fun pre r W W' row h hg hr => h.minds hg (fun k e => ⟨by have := (hr k e).1; have := HZ0.out; omega, (hr k e).2⟩)
  case assign =>
    intro l x W K hK
    gi_wp2
    exact hK
  case body =>
    rintro l pre r x W HJ ⟨rfl, hx⟩
    have hpl : (part rec x).length ≤ 48 := by rw [part_len]; omega
    have hbl : ((List.range x).flatMap (one n m rec)).length = 64 * x := flat_len _ 64 (one_len n m rec) x
    obtain ⟨P, hP⟩ : ∃ P, P = part rec x := ⟨_, rfl⟩
    obtain ⟨buf, hbuf⟩ : ∃ buf, buf = (List.range x).flatMap (one n m rec) := ⟨_, rfl⟩
    have hsucc : (List.range x ++ [x]).flatMap (one n m rec) = buf ++ be 8 n ++ be 2 x ++ be 2 m ++ be 2 P.length ++ [82, 87] ++ P ++ List.replicate (48 - P.length) 0 := by
      rw [hbuf, hP, List.flatMap_append]
      simp [one, hdr]
    have HSUCC := hid hsucc
    have H1 := hid (show SN w W W n rec (64 * m) buf r (64 * x) from ⟨hbuf ▸ HJ, hbuf ▸ hbl, Fr.refl _ _⟩)
    rw [← hP] at hpl ⊢
    obtain ⟨k0, k1, k3, kf⟩ := H1.out.cells
    have HK := hid (And.intro k0 k1)
    clear HJ hP hbl hbuf hsucc
    gi_wp2_with fail
    refine ⟨trivial, (big_in l _ H1.out n 8 8 rfl hn (by omega) (by omega) (by omega)).mono ?_⟩
    rintro e W2 ⟨rfl, h2, c2, f2⟩
    have H2 := hid h2
    clear h2 k3 kf k0 k1
    gi_wp2_with fail
    obtain ⟨W3, eW3⟩ : ∃ W3, W3 = W2.setCell ⟨w.heap.size + 3, 0, none⟩ (.slice (some ⟨w.heap.size + 2, 0, none⟩) (64 * x + 8) (64 * m)) := ⟨_, rfl⟩
    rw [← eW3] at H2 ⊢
    clear eW3 c2 f2
    refine ⟨trivial, (big_in l _ H2.out x 2 2 rfl (by omega) (by omega) (by omega) (by omega)).mono ?_⟩
    rintro e W4 ⟨rfl, h2, c2, f2⟩
    have H3 := hid h2
    clear h2
    gi_wp2_with fail
    obtain ⟨W5, eW5⟩ : ∃ W5, W5 = W4.setCell ⟨w.heap.size + 3, 0, none⟩ (.slice (some ⟨w.heap.size + 2, 0, none⟩) (64 * x + 8 + 2) (64 * m)) := ⟨_, rfl⟩
    rw [← eW5] at H3 ⊢
    clear eW5 c2 f2
    obtain ⟨k0, k1, k3, kf⟩ := H3.out.cells
    have H3d := hid H3.out.drew
    gi_region_with (first
      | (refine ⟨trivial, ?_⟩; gi_at_call 35; refine (many_in l _ _ rec.length m (by omega) HM.out).mono ?_; rintro e w' ⟨rfl, rfl⟩)
      | (refine ⟨trivial, ?_⟩; gi_at_call 63; refine (big_in l _ H3d.out m 2 2 rfl (by omega) (by omega) (by omega) (by omega)).mono ?_; rintro e W6 ⟨rfl, h2, c2, f2⟩))
    all_goals
      have H4 := hid h2
      obtain ⟨W7, eW7⟩ : ∃ W7, W7 = W6.setCell ⟨w.heap.size + 3, 0, none⟩ (.slice (some ⟨w.heap.size + 2, 0, none⟩) (64 * x + 8 + 2 + 2) (64 * m)) := ⟨_, rfl⟩
      rw [← eW7] at H4 ⊢
      clear eW7 c2 f2 h2 k0 k1 k3 kf
      obtain ⟨k0, k1, k3, kf⟩ := H4.out.cells
      clear k0 k1
      gi_wp2_with fail
      refine ⟨trivial, (big_in l _ H4.out P.length 2 2 rfl (by omega) (by omega) (by omega) (by omega)).mono ?_⟩
      rintro e W8 ⟨rfl, h2, c2, f2⟩
      obtain ⟨W9, r9, h9, c9, f9⟩ := h2.str [82, 87] 2 rfl (by omega)
      obtain ⟨W10, r10, h10, c10, f10⟩ := h9.str P P.length rfl (by omega)
      obtain ⟨W11, r11, h11, c11, f11⟩ := h10.zeros (48 - P.length) (48 - P.length) (by omega) (by omega) (by omega)
      have R9 := hid r9
      have R10 := hid r10
      have R11 := hid r11
      have H11 := hid h11
      clear r9 r10 r11 h2 h9 h10 h11 k3 kf
      gi_wp2_with (first
        | (gi_at_builtin; refine wpListIn_append_run _ rfl _ _ _ _ rfl _ _ rfl rfl _ _ R9.out ?_)
        | (gi_at_builtin; refine wpListIn_append_run _ rfl _ _ _ _ rfl _ _ rfl rfl _ _ R10.out ?_)
        | (gi_at_builtin; refine wpListIn_append_run _ rfl _ _ _ _ rfl _ _ rfl rfl _ _ R11.out ?_))
      refine ⟨⟨H11.out.fr.size, fun k o hB hk _ => H11.out.fr.at hk (by have := HZ0.out; omega)⟩, ?_⟩
      show SJ _ _ _ _ _ _ _
      rw [HSUCC.out]
      exact H11.out.sj
  case iter =>
    intro l B W hBk hY hJ0 hB0
    exact pieces1_in Fence.wide (9 - 1) trivial rfl (by omega) l (w.heap.size + 4) rec m HM.out hl (fun pre r W => SJ w W n rec (64 * m) (pre.flatMap (one n m rec)) r) B (fun pre r W h => h.h4) (fun pre r r' W h => h.rec' r')
      (fun W v hB => hBk _ _ ⟨(fr_set1 W _ 0 v).size, fun k o hk ho _ => (fr_set1 W _ 0 v).at ho (by have := HZ0.out; omega)⟩ hB) (fun pre r x W1 h1 hb hg => hY pre r x W1 h1 hb hg) W hJ0 hB0
  case done =>
    intro D W hD hJ hK
    have hlen : ((List.range m).flatMap (one n m rec)).length = 64 * m := flat_len _ 64 (one_len n m rec) m
    obtain ⟨k0, k1, k3, kf⟩ := hJ.cells
    rw [hlen] at k3
    have hback := buf_back hJ.h2 hlen
    have HJ := hid hJ
    have HK := hid hK
    clear k0 k1 hlen hK
    gi_wp2_with fail
    refine ⟨by simp, .inl ⟨_, _, rfl, run_takeDeferred HK.out, ?_⟩⟩
    refine ⟨_, results_tmp rfl _ _ _, ?_, ?_⟩
    · show Ending.returned (Value.string (bs ((List.range m).flatMap (one n m rec)))) = _
      rw [HM.out]
      rfl
    · refine (HJ.out.fr.trans (T := fun i => i = D) (fr_putObj W D _) (fun i _ e => by have := HZ0.out; omega)).mono (fun i hi e => by omega)

end Go.Proofs.YthmnchemfigneaaGreat.D
